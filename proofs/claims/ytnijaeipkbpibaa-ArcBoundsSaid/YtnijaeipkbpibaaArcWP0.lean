/- Package arc: its calls over parts, as plain functions. -/
import Derived.Test.YtnijaeipkbpibaaListS
import Derived.Test.YtnijaeipkbpibaaSepI
set_option linter.unusedVariables false
namespace Go.Proofs.Ytnijaeipkbpibaa
open Go.RowKit Go.MapKept

theorem q_range {a b : Int} (h : 0 ≤ a) (hb : 0 < b) (ha : a ≤ 9223372036854775807) : -9223372036854775808 ≤ a / b ∧ a / b ≤ 9223372036854775807 := by
  have h1 := Int.ediv_nonneg h (Int.le_of_lt hb)
  have h2 := Int.ediv_le_self b h
  omega
theorem q_bound {a b : Int} (h : 0 ≤ a) (hb : 0 < b) : 0 ≤ a / b ∧ a / b ≤ a := ⟨Int.ediv_nonneg h (Int.le_of_lt hb), Int.ediv_le_self b h⟩
theorem arc_last {l : List ByteArray} (h : 0 < l.length) : l.getLast?.getD ⟨#[]⟩ ∈ l := by
  rw [List.getLast?_eq_some_getLast (by intro e; simp [e] at h)]; exact List.getLast_mem _
abbrev arcB (b lt1 lt2 lb1 lb2 : Nat) (most p : Int) : Res := blkR b [iV most, iV p, pV lt1 0, pV lt2 0, pV lb1 0, pV lb2 0] 52
abbrev arcL (b lt1 lt2 lb1 lb2 : Nat) (most p : Int) (t1 t2 b1 b2 : List ByteArray) (n : Nat) : List Res :=
  [arcB b lt1 lt2 lb1 lb2 most p, llR lt1 t1 n, llR lt2 t2 n, llR lb1 b1 n, llR lb2 b2 n]

set_option maxHeartbeats 4000000 in
set_option maxRecDepth 100000 in
theorem arc_at0 {b : Nat} {lt1 : Nat} {lt2 : Nat} {lb1 : Nat} {lb2 : Nat} {n : Nat} {most : Int} {p : Int} {t1 : List ByteArray} {t2 : List ByteArray} {b1 : List ByteArray} {b2 : List ByteArray} (key : ByteArray) (hb : n ≤ 1000000000) (h0 : key ∈ t1) : Tri Try.prog 25 #[pV b 0, sV key] (arcL b lt1 lt2 lb1 lb2 most p t1 t2 b1 b2 n) (Same (arcL b lt1 lt2 lb1 lb2 most p t1 t2 b1 b2 n) (iV 0)) := by
  refine Tri.enter (args := [pV b 0, sV key]) Try.func25 rfl rfl rfl (fun B wz => ?_)
  refine Cd.seq ?_
  refine Cd.region rfl ?_
  refine Sq.vals [0] (rest := []) [iV 0] (fun w => by kernel_rfl) ?_
  refine Sq.done ?_
  refine Ex'.next ?_
  refine Cd.seq ?_
  refine Cd.seq ?_
  refine Cd.region rfl ?_
  refine Sq.vals [0, 1, 2] (rest := [3, 4]) [pV b 0, pV b 0, pV b 2] (fun w => by kernel_rfl) ?_
  refine Sq.same [0] (l := [arcB b lt1 lt2 lb1 lb2 most p]) (o_loadN (i := 2) [pV lt1 0, pV lt2 0, pV lb1 0, pV lb2 0] (by kernel_rfl) (by kernel_rfl) (by kernel_rfl)) (by kernel_rfl) rfl (by kernel_rfl) rfl ?_
  refine Sq.vals [4] (rest := []) [iV 0] (fun w => by kernel_rfl) ?_
  refine Sq.done ?_
  refine Ex'.next ?_
  refine Cd.block ?_
  refine Cd.unroll 5 ?_
  refine Cd.seq ?_
  refine Cd.region rfl ?_
  refine Sq.vals [0] (rest := []) [bV true] (fun w => by kernel_rfl) ?_
  refine Sq.done ?_
  refine Ex'.next ?_
  refine Cd.seq ?_
  refine Cd.condT (by kernel_rfl) ?_
  refine Cd.skip ?_
  refine Ex'.next ?_
  refine Cd.seq ?_
  refine Cd.block ?_
  refine Cd.seq ?_
  refine Cd.region rfl ?_
  refine Sq.vals [0, 1, 2, 3] (rest := []) [iV 0, pV lt1 0, iV 0, pV lt1 0] (fun w => by kernel_rfl) ?_
  refine Sq.done ?_
  refine Ex'.next ?_
  refine Cd.seq ?_
  refine Cd.region rfl ?_
  refine Sq.vals [0, 1] (rest := [2]) [pV lt1 0, sV key] (fun w => by kernel_rfl) ?_
  refine Sq.same [1] (l := [llR lt1 t1 n]) (o_call (by kernel_rfl) Try.call36 ((t_Has (ks := t1) (n := n) key).re (vT h0))) (by kernel_rfl) rfl (by kernel_rfl) rfl ?_
  refine Sq.done ?_
  refine Ex'.next ?_
  refine Cd.condT (by kernel_rfl) ?_
  refine Cd.seq ?_
  refine Cd.region rfl ?_
  refine Sq.vals [0, 1] (rest := []) [iV 0, iV 0] (fun w => by kernel_rfl) ?_
  refine Sq.done ?_
  refine Ex'.next ?_
  refine Cd.ret ?_
  refine Ex'.blockRet ?_
  refine Ex'.thenRet ?_
  refine Ex'.thenRet ?_
  refine Ex'.blockRet ?_
  refine Ex'.thenRet ?_
  refine Ex'.ret Try.results25 (RVs.tmp (v := iV 0) (by kernel_rfl) (RVs.nil)) (fun w hw => ?_)
  exact ⟨_, ⟨rfl, rfl⟩, hw.pickB [0, 1, 2, 3, 4] (by kernel_rfl) (by kernel_rfl) (by kernel_rfl)⟩

set_option maxHeartbeats 4000000 in
set_option maxRecDepth 100000 in
theorem arc_at1 {b : Nat} {lt1 : Nat} {lt2 : Nat} {lb1 : Nat} {lb2 : Nat} {n : Nat} {most : Int} {p : Int} {t1 : List ByteArray} {t2 : List ByteArray} {b1 : List ByteArray} {b2 : List ByteArray} (key : ByteArray) (hb : n ≤ 1000000000) (h0 : key ∉ t1) (h1 : key ∈ t2) : Tri Try.prog 25 #[pV b 0, sV key] (arcL b lt1 lt2 lb1 lb2 most p t1 t2 b1 b2 n) (Same (arcL b lt1 lt2 lb1 lb2 most p t1 t2 b1 b2 n) (iV 1)) := by
  refine Tri.enter (args := [pV b 0, sV key]) Try.func25 rfl rfl rfl (fun B wz => ?_)
  refine Cd.seq ?_
  refine Cd.region rfl ?_
  refine Sq.vals [0] (rest := []) [iV 0] (fun w => by kernel_rfl) ?_
  refine Sq.done ?_
  refine Ex'.next ?_
  refine Cd.seq ?_
  refine Cd.seq ?_
  refine Cd.region rfl ?_
  refine Sq.vals [0, 1, 2] (rest := [3, 4]) [pV b 0, pV b 0, pV b 2] (fun w => by kernel_rfl) ?_
  refine Sq.same [0] (l := [arcB b lt1 lt2 lb1 lb2 most p]) (o_loadN (i := 2) [pV lt1 0, pV lt2 0, pV lb1 0, pV lb2 0] (by kernel_rfl) (by kernel_rfl) (by kernel_rfl)) (by kernel_rfl) rfl (by kernel_rfl) rfl ?_
  refine Sq.vals [4] (rest := []) [iV 0] (fun w => by kernel_rfl) ?_
  refine Sq.done ?_
  refine Ex'.next ?_
  refine Cd.block ?_
  refine Cd.unroll 5 ?_
  refine Cd.seq ?_
  refine Cd.region rfl ?_
  refine Sq.vals [0] (rest := []) [bV true] (fun w => by kernel_rfl) ?_
  refine Sq.done ?_
  refine Ex'.next ?_
  refine Cd.seq ?_
  refine Cd.condT (by kernel_rfl) ?_
  refine Cd.skip ?_
  refine Ex'.next ?_
  refine Cd.seq ?_
  refine Cd.block ?_
  refine Cd.seq ?_
  refine Cd.region rfl ?_
  refine Sq.vals [0, 1, 2, 3] (rest := []) [iV 0, pV lt1 0, iV 0, pV lt1 0] (fun w => by kernel_rfl) ?_
  refine Sq.done ?_
  refine Ex'.next ?_
  refine Cd.seq ?_
  refine Cd.region rfl ?_
  refine Sq.vals [0, 1] (rest := [2]) [pV lt1 0, sV key] (fun w => by kernel_rfl) ?_
  refine Sq.same [1] (l := [llR lt1 t1 n]) (o_call (by kernel_rfl) Try.call36 ((t_Has (ks := t1) (n := n) key).re (vF h0))) (by kernel_rfl) rfl (by kernel_rfl) rfl ?_
  refine Sq.done ?_
  refine Ex'.next ?_
  refine Cd.condF (by kernel_rfl) ?_
  refine Cd.skip ?_
  refine Ex'.blockNormal ?_
  refine Ex'.next ?_
  refine Cd.region rfl ?_
  refine Sq.vals [0, 1] (rest := []) [iV 1, iV 1] (fun w => by kernel_rfl) ?_
  refine Sq.done ?_
  refine Ex'.again ?_
  refine Cd.seq ?_
  refine Cd.region rfl ?_
  refine Sq.vals [0] (rest := []) [bV true] (fun w => by kernel_rfl) ?_
  refine Sq.done ?_
  refine Ex'.next ?_
  refine Cd.seq ?_
  refine Cd.condT (by kernel_rfl) ?_
  refine Cd.skip ?_
  refine Ex'.next ?_
  refine Cd.seq ?_
  refine Cd.block ?_
  refine Cd.seq ?_
  refine Cd.region rfl ?_
  refine Sq.vals [0, 1, 2, 3] (rest := []) [iV 1, pV lt2 0, iV 1, pV lt2 0] (fun w => by kernel_rfl) ?_
  refine Sq.done ?_
  refine Ex'.next ?_
  refine Cd.seq ?_
  refine Cd.region rfl ?_
  refine Sq.vals [0, 1] (rest := [2]) [pV lt2 0, sV key] (fun w => by kernel_rfl) ?_
  refine Sq.same [2] (l := [llR lt2 t2 n]) (o_call (by kernel_rfl) Try.call36 ((t_Has (ks := t2) (n := n) key).re (vT h1))) (by kernel_rfl) rfl (by kernel_rfl) rfl ?_
  refine Sq.done ?_
  refine Ex'.next ?_
  refine Cd.condT (by kernel_rfl) ?_
  refine Cd.seq ?_
  refine Cd.region rfl ?_
  refine Sq.vals [0, 1] (rest := []) [iV 1, iV 1] (fun w => by kernel_rfl) ?_
  refine Sq.done ?_
  refine Ex'.next ?_
  refine Cd.ret ?_
  refine Ex'.blockRet ?_
  refine Ex'.thenRet ?_
  refine Ex'.thenRet ?_
  refine Ex'.blockRet ?_
  refine Ex'.thenRet ?_
  refine Ex'.ret Try.results25 (RVs.tmp (v := iV 1) (by kernel_rfl) (RVs.nil)) (fun w hw => ?_)
  exact ⟨_, ⟨rfl, rfl⟩, hw.pickB [0, 1, 2, 3, 4] (by kernel_rfl) (by kernel_rfl) (by kernel_rfl)⟩

set_option maxHeartbeats 4000000 in
set_option maxRecDepth 100000 in
theorem arc_at2 {b : Nat} {lt1 : Nat} {lt2 : Nat} {lb1 : Nat} {lb2 : Nat} {n : Nat} {most : Int} {p : Int} {t1 : List ByteArray} {t2 : List ByteArray} {b1 : List ByteArray} {b2 : List ByteArray} (key : ByteArray) (hb : n ≤ 1000000000) (h0 : key ∉ t1) (h1 : key ∉ t2) (h2 : key ∈ b1) : Tri Try.prog 25 #[pV b 0, sV key] (arcL b lt1 lt2 lb1 lb2 most p t1 t2 b1 b2 n) (Same (arcL b lt1 lt2 lb1 lb2 most p t1 t2 b1 b2 n) (iV 2)) := by
  refine Tri.enter (args := [pV b 0, sV key]) Try.func25 rfl rfl rfl (fun B wz => ?_)
  refine Cd.seq ?_
  refine Cd.region rfl ?_
  refine Sq.vals [0] (rest := []) [iV 0] (fun w => by kernel_rfl) ?_
  refine Sq.done ?_
  refine Ex'.next ?_
  refine Cd.seq ?_
  refine Cd.seq ?_
  refine Cd.region rfl ?_
  refine Sq.vals [0, 1, 2] (rest := [3, 4]) [pV b 0, pV b 0, pV b 2] (fun w => by kernel_rfl) ?_
  refine Sq.same [0] (l := [arcB b lt1 lt2 lb1 lb2 most p]) (o_loadN (i := 2) [pV lt1 0, pV lt2 0, pV lb1 0, pV lb2 0] (by kernel_rfl) (by kernel_rfl) (by kernel_rfl)) (by kernel_rfl) rfl (by kernel_rfl) rfl ?_
  refine Sq.vals [4] (rest := []) [iV 0] (fun w => by kernel_rfl) ?_
  refine Sq.done ?_
  refine Ex'.next ?_
  refine Cd.block ?_
  refine Cd.unroll 5 ?_
  refine Cd.seq ?_
  refine Cd.region rfl ?_
  refine Sq.vals [0] (rest := []) [bV true] (fun w => by kernel_rfl) ?_
  refine Sq.done ?_
  refine Ex'.next ?_
  refine Cd.seq ?_
  refine Cd.condT (by kernel_rfl) ?_
  refine Cd.skip ?_
  refine Ex'.next ?_
  refine Cd.seq ?_
  refine Cd.block ?_
  refine Cd.seq ?_
  refine Cd.region rfl ?_
  refine Sq.vals [0, 1, 2, 3] (rest := []) [iV 0, pV lt1 0, iV 0, pV lt1 0] (fun w => by kernel_rfl) ?_
  refine Sq.done ?_
  refine Ex'.next ?_
  refine Cd.seq ?_
  refine Cd.region rfl ?_
  refine Sq.vals [0, 1] (rest := [2]) [pV lt1 0, sV key] (fun w => by kernel_rfl) ?_
  refine Sq.same [1] (l := [llR lt1 t1 n]) (o_call (by kernel_rfl) Try.call36 ((t_Has (ks := t1) (n := n) key).re (vF h0))) (by kernel_rfl) rfl (by kernel_rfl) rfl ?_
  refine Sq.done ?_
  refine Ex'.next ?_
  refine Cd.condF (by kernel_rfl) ?_
  refine Cd.skip ?_
  refine Ex'.blockNormal ?_
  refine Ex'.next ?_
  refine Cd.region rfl ?_
  refine Sq.vals [0, 1] (rest := []) [iV 1, iV 1] (fun w => by kernel_rfl) ?_
  refine Sq.done ?_
  refine Ex'.again ?_
  refine Cd.seq ?_
  refine Cd.region rfl ?_
  refine Sq.vals [0] (rest := []) [bV true] (fun w => by kernel_rfl) ?_
  refine Sq.done ?_
  refine Ex'.next ?_
  refine Cd.seq ?_
  refine Cd.condT (by kernel_rfl) ?_
  refine Cd.skip ?_
  refine Ex'.next ?_
  refine Cd.seq ?_
  refine Cd.block ?_
  refine Cd.seq ?_
  refine Cd.region rfl ?_
  refine Sq.vals [0, 1, 2, 3] (rest := []) [iV 1, pV lt2 0, iV 1, pV lt2 0] (fun w => by kernel_rfl) ?_
  refine Sq.done ?_
  refine Ex'.next ?_
  refine Cd.seq ?_
  refine Cd.region rfl ?_
  refine Sq.vals [0, 1] (rest := [2]) [pV lt2 0, sV key] (fun w => by kernel_rfl) ?_
  refine Sq.same [2] (l := [llR lt2 t2 n]) (o_call (by kernel_rfl) Try.call36 ((t_Has (ks := t2) (n := n) key).re (vF h1))) (by kernel_rfl) rfl (by kernel_rfl) rfl ?_
  refine Sq.done ?_
  refine Ex'.next ?_
  refine Cd.condF (by kernel_rfl) ?_
  refine Cd.skip ?_
  refine Ex'.blockNormal ?_
  refine Ex'.next ?_
  refine Cd.region rfl ?_
  refine Sq.vals [0, 1] (rest := []) [iV 2, iV 2] (fun w => by kernel_rfl) ?_
  refine Sq.done ?_
  refine Ex'.again ?_
  refine Cd.seq ?_
  refine Cd.region rfl ?_
  refine Sq.vals [0] (rest := []) [bV true] (fun w => by kernel_rfl) ?_
  refine Sq.done ?_
  refine Ex'.next ?_
  refine Cd.seq ?_
  refine Cd.condT (by kernel_rfl) ?_
  refine Cd.skip ?_
  refine Ex'.next ?_
  refine Cd.seq ?_
  refine Cd.block ?_
  refine Cd.seq ?_
  refine Cd.region rfl ?_
  refine Sq.vals [0, 1, 2, 3] (rest := []) [iV 2, pV lb1 0, iV 2, pV lb1 0] (fun w => by kernel_rfl) ?_
  refine Sq.done ?_
  refine Ex'.next ?_
  refine Cd.seq ?_
  refine Cd.region rfl ?_
  refine Sq.vals [0, 1] (rest := [2]) [pV lb1 0, sV key] (fun w => by kernel_rfl) ?_
  refine Sq.same [3] (l := [llR lb1 b1 n]) (o_call (by kernel_rfl) Try.call36 ((t_Has (ks := b1) (n := n) key).re (vT h2))) (by kernel_rfl) rfl (by kernel_rfl) rfl ?_
  refine Sq.done ?_
  refine Ex'.next ?_
  refine Cd.condT (by kernel_rfl) ?_
  refine Cd.seq ?_
  refine Cd.region rfl ?_
  refine Sq.vals [0, 1] (rest := []) [iV 2, iV 2] (fun w => by kernel_rfl) ?_
  refine Sq.done ?_
  refine Ex'.next ?_
  refine Cd.ret ?_
  refine Ex'.blockRet ?_
  refine Ex'.thenRet ?_
  refine Ex'.thenRet ?_
  refine Ex'.blockRet ?_
  refine Ex'.thenRet ?_
  refine Ex'.ret Try.results25 (RVs.tmp (v := iV 2) (by kernel_rfl) (RVs.nil)) (fun w hw => ?_)
  exact ⟨_, ⟨rfl, rfl⟩, hw.pickB [0, 1, 2, 3, 4] (by kernel_rfl) (by kernel_rfl) (by kernel_rfl)⟩

set_option maxHeartbeats 4000000 in
set_option maxRecDepth 100000 in
theorem arc_at3 {b : Nat} {lt1 : Nat} {lt2 : Nat} {lb1 : Nat} {lb2 : Nat} {n : Nat} {most : Int} {p : Int} {t1 : List ByteArray} {t2 : List ByteArray} {b1 : List ByteArray} {b2 : List ByteArray} (key : ByteArray) (hb : n ≤ 1000000000) (h0 : key ∉ t1) (h1 : key ∉ t2) (h2 : key ∉ b1) (h3 : key ∈ b2) : Tri Try.prog 25 #[pV b 0, sV key] (arcL b lt1 lt2 lb1 lb2 most p t1 t2 b1 b2 n) (Same (arcL b lt1 lt2 lb1 lb2 most p t1 t2 b1 b2 n) (iV 3)) := by
  refine Tri.enter (args := [pV b 0, sV key]) Try.func25 rfl rfl rfl (fun B wz => ?_)
  refine Cd.seq ?_
  refine Cd.region rfl ?_
  refine Sq.vals [0] (rest := []) [iV 0] (fun w => by kernel_rfl) ?_
  refine Sq.done ?_
  refine Ex'.next ?_
  refine Cd.seq ?_
  refine Cd.seq ?_
  refine Cd.region rfl ?_
  refine Sq.vals [0, 1, 2] (rest := [3, 4]) [pV b 0, pV b 0, pV b 2] (fun w => by kernel_rfl) ?_
  refine Sq.same [0] (l := [arcB b lt1 lt2 lb1 lb2 most p]) (o_loadN (i := 2) [pV lt1 0, pV lt2 0, pV lb1 0, pV lb2 0] (by kernel_rfl) (by kernel_rfl) (by kernel_rfl)) (by kernel_rfl) rfl (by kernel_rfl) rfl ?_
  refine Sq.vals [4] (rest := []) [iV 0] (fun w => by kernel_rfl) ?_
  refine Sq.done ?_
  refine Ex'.next ?_
  refine Cd.block ?_
  refine Cd.unroll 5 ?_
  refine Cd.seq ?_
  refine Cd.region rfl ?_
  refine Sq.vals [0] (rest := []) [bV true] (fun w => by kernel_rfl) ?_
  refine Sq.done ?_
  refine Ex'.next ?_
  refine Cd.seq ?_
  refine Cd.condT (by kernel_rfl) ?_
  refine Cd.skip ?_
  refine Ex'.next ?_
  refine Cd.seq ?_
  refine Cd.block ?_
  refine Cd.seq ?_
  refine Cd.region rfl ?_
  refine Sq.vals [0, 1, 2, 3] (rest := []) [iV 0, pV lt1 0, iV 0, pV lt1 0] (fun w => by kernel_rfl) ?_
  refine Sq.done ?_
  refine Ex'.next ?_
  refine Cd.seq ?_
  refine Cd.region rfl ?_
  refine Sq.vals [0, 1] (rest := [2]) [pV lt1 0, sV key] (fun w => by kernel_rfl) ?_
  refine Sq.same [1] (l := [llR lt1 t1 n]) (o_call (by kernel_rfl) Try.call36 ((t_Has (ks := t1) (n := n) key).re (vF h0))) (by kernel_rfl) rfl (by kernel_rfl) rfl ?_
  refine Sq.done ?_
  refine Ex'.next ?_
  refine Cd.condF (by kernel_rfl) ?_
  refine Cd.skip ?_
  refine Ex'.blockNormal ?_
  refine Ex'.next ?_
  refine Cd.region rfl ?_
  refine Sq.vals [0, 1] (rest := []) [iV 1, iV 1] (fun w => by kernel_rfl) ?_
  refine Sq.done ?_
  refine Ex'.again ?_
  refine Cd.seq ?_
  refine Cd.region rfl ?_
  refine Sq.vals [0] (rest := []) [bV true] (fun w => by kernel_rfl) ?_
  refine Sq.done ?_
  refine Ex'.next ?_
  refine Cd.seq ?_
  refine Cd.condT (by kernel_rfl) ?_
  refine Cd.skip ?_
  refine Ex'.next ?_
  refine Cd.seq ?_
  refine Cd.block ?_
  refine Cd.seq ?_
  refine Cd.region rfl ?_
  refine Sq.vals [0, 1, 2, 3] (rest := []) [iV 1, pV lt2 0, iV 1, pV lt2 0] (fun w => by kernel_rfl) ?_
  refine Sq.done ?_
  refine Ex'.next ?_
  refine Cd.seq ?_
  refine Cd.region rfl ?_
  refine Sq.vals [0, 1] (rest := [2]) [pV lt2 0, sV key] (fun w => by kernel_rfl) ?_
  refine Sq.same [2] (l := [llR lt2 t2 n]) (o_call (by kernel_rfl) Try.call36 ((t_Has (ks := t2) (n := n) key).re (vF h1))) (by kernel_rfl) rfl (by kernel_rfl) rfl ?_
  refine Sq.done ?_
  refine Ex'.next ?_
  refine Cd.condF (by kernel_rfl) ?_
  refine Cd.skip ?_
  refine Ex'.blockNormal ?_
  refine Ex'.next ?_
  refine Cd.region rfl ?_
  refine Sq.vals [0, 1] (rest := []) [iV 2, iV 2] (fun w => by kernel_rfl) ?_
  refine Sq.done ?_
  refine Ex'.again ?_
  refine Cd.seq ?_
  refine Cd.region rfl ?_
  refine Sq.vals [0] (rest := []) [bV true] (fun w => by kernel_rfl) ?_
  refine Sq.done ?_
  refine Ex'.next ?_
  refine Cd.seq ?_
  refine Cd.condT (by kernel_rfl) ?_
  refine Cd.skip ?_
  refine Ex'.next ?_
  refine Cd.seq ?_
  refine Cd.block ?_
  refine Cd.seq ?_
  refine Cd.region rfl ?_
  refine Sq.vals [0, 1, 2, 3] (rest := []) [iV 2, pV lb1 0, iV 2, pV lb1 0] (fun w => by kernel_rfl) ?_
  refine Sq.done ?_
  refine Ex'.next ?_
  refine Cd.seq ?_
  refine Cd.region rfl ?_
  refine Sq.vals [0, 1] (rest := [2]) [pV lb1 0, sV key] (fun w => by kernel_rfl) ?_
  refine Sq.same [3] (l := [llR lb1 b1 n]) (o_call (by kernel_rfl) Try.call36 ((t_Has (ks := b1) (n := n) key).re (vF h2))) (by kernel_rfl) rfl (by kernel_rfl) rfl ?_
  refine Sq.done ?_
  refine Ex'.next ?_
  refine Cd.condF (by kernel_rfl) ?_
  refine Cd.skip ?_
  refine Ex'.blockNormal ?_
  refine Ex'.next ?_
  refine Cd.region rfl ?_
  refine Sq.vals [0, 1] (rest := []) [iV 3, iV 3] (fun w => by kernel_rfl) ?_
  refine Sq.done ?_
  refine Ex'.again ?_
  refine Cd.seq ?_
  refine Cd.region rfl ?_
  refine Sq.vals [0] (rest := []) [bV true] (fun w => by kernel_rfl) ?_
  refine Sq.done ?_
  refine Ex'.next ?_
  refine Cd.seq ?_
  refine Cd.condT (by kernel_rfl) ?_
  refine Cd.skip ?_
  refine Ex'.next ?_
  refine Cd.seq ?_
  refine Cd.block ?_
  refine Cd.seq ?_
  refine Cd.region rfl ?_
  refine Sq.vals [0, 1, 2, 3] (rest := []) [iV 3, pV lb2 0, iV 3, pV lb2 0] (fun w => by kernel_rfl) ?_
  refine Sq.done ?_
  refine Ex'.next ?_
  refine Cd.seq ?_
  refine Cd.region rfl ?_
  refine Sq.vals [0, 1] (rest := [2]) [pV lb2 0, sV key] (fun w => by kernel_rfl) ?_
  refine Sq.same [4] (l := [llR lb2 b2 n]) (o_call (by kernel_rfl) Try.call36 ((t_Has (ks := b2) (n := n) key).re (vT h3))) (by kernel_rfl) rfl (by kernel_rfl) rfl ?_
  refine Sq.done ?_
  refine Ex'.next ?_
  refine Cd.condT (by kernel_rfl) ?_
  refine Cd.seq ?_
  refine Cd.region rfl ?_
  refine Sq.vals [0, 1] (rest := []) [iV 3, iV 3] (fun w => by kernel_rfl) ?_
  refine Sq.done ?_
  refine Ex'.next ?_
  refine Cd.ret ?_
  refine Ex'.blockRet ?_
  refine Ex'.thenRet ?_
  refine Ex'.thenRet ?_
  refine Ex'.blockRet ?_
  refine Ex'.thenRet ?_
  refine Ex'.ret Try.results25 (RVs.tmp (v := iV 3) (by kernel_rfl) (RVs.nil)) (fun w hw => ?_)
  exact ⟨_, ⟨rfl, rfl⟩, hw.pickB [0, 1, 2, 3, 4] (by kernel_rfl) (by kernel_rfl) (by kernel_rfl)⟩

set_option maxHeartbeats 4000000 in
set_option maxRecDepth 100000 in
theorem arc_at4 {b : Nat} {lt1 : Nat} {lt2 : Nat} {lb1 : Nat} {lb2 : Nat} {n : Nat} {most : Int} {p : Int} {t1 : List ByteArray} {t2 : List ByteArray} {b1 : List ByteArray} {b2 : List ByteArray} (key : ByteArray) (hb : n ≤ 1000000000) (h0 : key ∉ t1) (h1 : key ∉ t2) (h2 : key ∉ b1) (h3 : key ∉ b2) : Tri Try.prog 25 #[pV b 0, sV key] (arcL b lt1 lt2 lb1 lb2 most p t1 t2 b1 b2 n) (Same (arcL b lt1 lt2 lb1 lb2 most p t1 t2 b1 b2 n) (iV 4)) := by
  refine Tri.enter (args := [pV b 0, sV key]) Try.func25 rfl rfl rfl (fun B wz => ?_)
  refine Cd.seq ?_
  refine Cd.region rfl ?_
  refine Sq.vals [0] (rest := []) [iV 0] (fun w => by kernel_rfl) ?_
  refine Sq.done ?_
  refine Ex'.next ?_
  refine Cd.seq ?_
  refine Cd.seq ?_
  refine Cd.region rfl ?_
  refine Sq.vals [0, 1, 2] (rest := [3, 4]) [pV b 0, pV b 0, pV b 2] (fun w => by kernel_rfl) ?_
  refine Sq.same [0] (l := [arcB b lt1 lt2 lb1 lb2 most p]) (o_loadN (i := 2) [pV lt1 0, pV lt2 0, pV lb1 0, pV lb2 0] (by kernel_rfl) (by kernel_rfl) (by kernel_rfl)) (by kernel_rfl) rfl (by kernel_rfl) rfl ?_
  refine Sq.vals [4] (rest := []) [iV 0] (fun w => by kernel_rfl) ?_
  refine Sq.done ?_
  refine Ex'.next ?_
  refine Cd.block ?_
  refine Cd.unroll 5 ?_
  refine Cd.seq ?_
  refine Cd.region rfl ?_
  refine Sq.vals [0] (rest := []) [bV true] (fun w => by kernel_rfl) ?_
  refine Sq.done ?_
  refine Ex'.next ?_
  refine Cd.seq ?_
  refine Cd.condT (by kernel_rfl) ?_
  refine Cd.skip ?_
  refine Ex'.next ?_
  refine Cd.seq ?_
  refine Cd.block ?_
  refine Cd.seq ?_
  refine Cd.region rfl ?_
  refine Sq.vals [0, 1, 2, 3] (rest := []) [iV 0, pV lt1 0, iV 0, pV lt1 0] (fun w => by kernel_rfl) ?_
  refine Sq.done ?_
  refine Ex'.next ?_
  refine Cd.seq ?_
  refine Cd.region rfl ?_
  refine Sq.vals [0, 1] (rest := [2]) [pV lt1 0, sV key] (fun w => by kernel_rfl) ?_
  refine Sq.same [1] (l := [llR lt1 t1 n]) (o_call (by kernel_rfl) Try.call36 ((t_Has (ks := t1) (n := n) key).re (vF h0))) (by kernel_rfl) rfl (by kernel_rfl) rfl ?_
  refine Sq.done ?_
  refine Ex'.next ?_
  refine Cd.condF (by kernel_rfl) ?_
  refine Cd.skip ?_
  refine Ex'.blockNormal ?_
  refine Ex'.next ?_
  refine Cd.region rfl ?_
  refine Sq.vals [0, 1] (rest := []) [iV 1, iV 1] (fun w => by kernel_rfl) ?_
  refine Sq.done ?_
  refine Ex'.again ?_
  refine Cd.seq ?_
  refine Cd.region rfl ?_
  refine Sq.vals [0] (rest := []) [bV true] (fun w => by kernel_rfl) ?_
  refine Sq.done ?_
  refine Ex'.next ?_
  refine Cd.seq ?_
  refine Cd.condT (by kernel_rfl) ?_
  refine Cd.skip ?_
  refine Ex'.next ?_
  refine Cd.seq ?_
  refine Cd.block ?_
  refine Cd.seq ?_
  refine Cd.region rfl ?_
  refine Sq.vals [0, 1, 2, 3] (rest := []) [iV 1, pV lt2 0, iV 1, pV lt2 0] (fun w => by kernel_rfl) ?_
  refine Sq.done ?_
  refine Ex'.next ?_
  refine Cd.seq ?_
  refine Cd.region rfl ?_
  refine Sq.vals [0, 1] (rest := [2]) [pV lt2 0, sV key] (fun w => by kernel_rfl) ?_
  refine Sq.same [2] (l := [llR lt2 t2 n]) (o_call (by kernel_rfl) Try.call36 ((t_Has (ks := t2) (n := n) key).re (vF h1))) (by kernel_rfl) rfl (by kernel_rfl) rfl ?_
  refine Sq.done ?_
  refine Ex'.next ?_
  refine Cd.condF (by kernel_rfl) ?_
  refine Cd.skip ?_
  refine Ex'.blockNormal ?_
  refine Ex'.next ?_
  refine Cd.region rfl ?_
  refine Sq.vals [0, 1] (rest := []) [iV 2, iV 2] (fun w => by kernel_rfl) ?_
  refine Sq.done ?_
  refine Ex'.again ?_
  refine Cd.seq ?_
  refine Cd.region rfl ?_
  refine Sq.vals [0] (rest := []) [bV true] (fun w => by kernel_rfl) ?_
  refine Sq.done ?_
  refine Ex'.next ?_
  refine Cd.seq ?_
  refine Cd.condT (by kernel_rfl) ?_
  refine Cd.skip ?_
  refine Ex'.next ?_
  refine Cd.seq ?_
  refine Cd.block ?_
  refine Cd.seq ?_
  refine Cd.region rfl ?_
  refine Sq.vals [0, 1, 2, 3] (rest := []) [iV 2, pV lb1 0, iV 2, pV lb1 0] (fun w => by kernel_rfl) ?_
  refine Sq.done ?_
  refine Ex'.next ?_
  refine Cd.seq ?_
  refine Cd.region rfl ?_
  refine Sq.vals [0, 1] (rest := [2]) [pV lb1 0, sV key] (fun w => by kernel_rfl) ?_
  refine Sq.same [3] (l := [llR lb1 b1 n]) (o_call (by kernel_rfl) Try.call36 ((t_Has (ks := b1) (n := n) key).re (vF h2))) (by kernel_rfl) rfl (by kernel_rfl) rfl ?_
  refine Sq.done ?_
  refine Ex'.next ?_
  refine Cd.condF (by kernel_rfl) ?_
  refine Cd.skip ?_
  refine Ex'.blockNormal ?_
  refine Ex'.next ?_
  refine Cd.region rfl ?_
  refine Sq.vals [0, 1] (rest := []) [iV 3, iV 3] (fun w => by kernel_rfl) ?_
  refine Sq.done ?_
  refine Ex'.again ?_
  refine Cd.seq ?_
  refine Cd.region rfl ?_
  refine Sq.vals [0] (rest := []) [bV true] (fun w => by kernel_rfl) ?_
  refine Sq.done ?_
  refine Ex'.next ?_
  refine Cd.seq ?_
  refine Cd.condT (by kernel_rfl) ?_
  refine Cd.skip ?_
  refine Ex'.next ?_
  refine Cd.seq ?_
  refine Cd.block ?_
  refine Cd.seq ?_
  refine Cd.region rfl ?_
  refine Sq.vals [0, 1, 2, 3] (rest := []) [iV 3, pV lb2 0, iV 3, pV lb2 0] (fun w => by kernel_rfl) ?_
  refine Sq.done ?_
  refine Ex'.next ?_
  refine Cd.seq ?_
  refine Cd.region rfl ?_
  refine Sq.vals [0, 1] (rest := [2]) [pV lb2 0, sV key] (fun w => by kernel_rfl) ?_
  refine Sq.same [4] (l := [llR lb2 b2 n]) (o_call (by kernel_rfl) Try.call36 ((t_Has (ks := b2) (n := n) key).re (vF h3))) (by kernel_rfl) rfl (by kernel_rfl) rfl ?_
  refine Sq.done ?_
  refine Ex'.next ?_
  refine Cd.condF (by kernel_rfl) ?_
  refine Cd.skip ?_
  refine Ex'.blockNormal ?_
  refine Ex'.next ?_
  refine Cd.region rfl ?_
  refine Sq.vals [0, 1] (rest := []) [iV 4, iV 4] (fun w => by kernel_rfl) ?_
  refine Sq.done ?_
  refine Ex'.again ?_
  refine Cd.seq ?_
  refine Cd.region rfl ?_
  refine Sq.vals [0] (rest := []) [bV false] (fun w => by kernel_rfl) ?_
  refine Sq.done ?_
  refine Ex'.next ?_
  refine Cd.seq ?_
  refine Cd.condF (by kernel_rfl) ?_
  refine Cd.exit ?_
  refine Ex'.thenExit ?_
  refine Ex'.thenExit ?_
  refine Ex'.blockHit ?_
  refine Ex'.next ?_
  refine Cd.seq ?_
  refine Cd.region rfl ?_
  refine Sq.vals [0] (rest := []) [iV 4] (fun w => by kernel_rfl) ?_
  refine Sq.done ?_
  refine Ex'.next ?_
  refine Cd.ret ?_
  refine Ex'.ret Try.results25 (RVs.tmp (v := iV 4) (by kernel_rfl) (RVs.nil)) (fun w hw => ?_)
  exact ⟨_, ⟨rfl, rfl⟩, hw.pickB [0, 1, 2, 3, 4] (by kernel_rfl) (by kernel_rfl) (by kernel_rfl)⟩

def arcHas (most : Int) (p : Int) (t1 : List ByteArray) (t2 : List ByteArray) (b1 : List ByteArray) (b2 : List ByteArray) (key : ByteArray) : Bool :=
  if key ∈ t1 then true else if key ∈ t2 then true else if key ∈ b1 then false else if key ∈ b2 then false else false

set_option maxHeartbeats 4000000 in
set_option maxRecDepth 100000 in
theorem arc_Has {b : Nat} {lt1 : Nat} {lt2 : Nat} {lb1 : Nat} {lb2 : Nat} {n : Nat} {most : Int} {p : Int} {t1 : List ByteArray} {t2 : List ByteArray} {b1 : List ByteArray} {b2 : List ByteArray} (key : ByteArray) (hb : n ≤ 1000000000) : Tri Try.prog 16 #[pV b 0, sV key] (arcL b lt1 lt2 lb1 lb2 most p t1 t2 b1 b2 n) (Same (arcL b lt1 lt2 lb1 lb2 most p t1 t2 b1 b2 n) (bV (arcHas most p t1 t2 b1 b2 key))) := by
  refine Tri.enter (args := [pV b 0, sV key]) Try.func16 rfl rfl rfl (fun B wz => ?_)
  refine Cd.seq ?_
  refine Cd.region rfl ?_
  refine Sq.vals [0] (rest := []) [bV false] (fun w => by kernel_rfl) ?_
  refine Sq.done ?_
  refine Ex'.next ?_
  refine Cd.seq ?_
  refine Cd.region rfl ?_
  refine Sq.vals [0, 1] (rest := [2, 3, 4]) [pV b 0, sV key] (fun w => by kernel_rfl) ?_
  by_cases h1 : key ∈ t1
  ·
    refine Sq.same [0, 1, 2, 3, 4] (l := arcL b lt1 lt2 lb1 lb2 most p t1 t2 b1 b2 n) (o_call (by kernel_rfl) Try.call25 (arc_at0 (n := n) (most := most) (p := p) (t1 := t1) (t2 := t2) (b1 := b1) (b2 := b2) key (by omega) h1)) (by kernel_rfl) rfl (by kernel_rfl) rfl ?_
    refine Sq.vals [3, 4] (rest := []) [bV true, bV true] (fun w => by kernel_rfl) ?_
    refine Sq.done ?_
    refine Ex'.next ?_
    refine Cd.ret ?_
    refine Ex'.ret Try.results16 (RVs.tmp (v := bV true) (by kernel_rfl) (RVs.nil)) (fun w hw => ?_)
    have e : arcHas most p t1 t2 b1 b2 key = true := by unfold arcHas; rw [if_pos h1]
    rw [e]
    exact ⟨_, ⟨rfl, rfl⟩, hw.pickB [0, 1, 2, 3, 4] (by kernel_rfl) (by kernel_rfl) (by kernel_rfl)⟩
  ·
    by_cases h2 : key ∈ t2
    ·
      refine Sq.same [0, 1, 2, 3, 4] (l := arcL b lt1 lt2 lb1 lb2 most p t1 t2 b1 b2 n) (o_call (by kernel_rfl) Try.call25 (arc_at1 (n := n) (most := most) (p := p) (t1 := t1) (t2 := t2) (b1 := b1) (b2 := b2) key (by omega) h1 h2)) (by kernel_rfl) rfl (by kernel_rfl) rfl ?_
      refine Sq.vals [3, 4] (rest := []) [bV true, bV true] (fun w => by kernel_rfl) ?_
      refine Sq.done ?_
      refine Ex'.next ?_
      refine Cd.ret ?_
      refine Ex'.ret Try.results16 (RVs.tmp (v := bV true) (by kernel_rfl) (RVs.nil)) (fun w hw => ?_)
      have e : arcHas most p t1 t2 b1 b2 key = true := by unfold arcHas; rw [if_neg h1, if_pos h2]
      rw [e]
      exact ⟨_, ⟨rfl, rfl⟩, hw.pickB [0, 1, 2, 3, 4] (by kernel_rfl) (by kernel_rfl) (by kernel_rfl)⟩
    ·
      by_cases h3 : key ∈ b1
      ·
        refine Sq.same [0, 1, 2, 3, 4] (l := arcL b lt1 lt2 lb1 lb2 most p t1 t2 b1 b2 n) (o_call (by kernel_rfl) Try.call25 (arc_at2 (n := n) (most := most) (p := p) (t1 := t1) (t2 := t2) (b1 := b1) (b2 := b2) key (by omega) h1 h2 h3)) (by kernel_rfl) rfl (by kernel_rfl) rfl ?_
        refine Sq.vals [3, 4] (rest := []) [bV false, bV false] (fun w => by kernel_rfl) ?_
        refine Sq.done ?_
        refine Ex'.next ?_
        refine Cd.ret ?_
        refine Ex'.ret Try.results16 (RVs.tmp (v := bV false) (by kernel_rfl) (RVs.nil)) (fun w hw => ?_)
        have e : arcHas most p t1 t2 b1 b2 key = false := by unfold arcHas; rw [if_neg h1, if_neg h2, if_pos h3]
        rw [e]
        exact ⟨_, ⟨rfl, rfl⟩, hw.pickB [0, 1, 2, 3, 4] (by kernel_rfl) (by kernel_rfl) (by kernel_rfl)⟩
      ·
        by_cases h4 : key ∈ b2
        ·
          refine Sq.same [0, 1, 2, 3, 4] (l := arcL b lt1 lt2 lb1 lb2 most p t1 t2 b1 b2 n) (o_call (by kernel_rfl) Try.call25 (arc_at3 (n := n) (most := most) (p := p) (t1 := t1) (t2 := t2) (b1 := b1) (b2 := b2) key (by omega) h1 h2 h3 h4)) (by kernel_rfl) rfl (by kernel_rfl) rfl ?_
          refine Sq.vals [3, 4] (rest := []) [bV false, bV false] (fun w => by kernel_rfl) ?_
          refine Sq.done ?_
          refine Ex'.next ?_
          refine Cd.ret ?_
          refine Ex'.ret Try.results16 (RVs.tmp (v := bV false) (by kernel_rfl) (RVs.nil)) (fun w hw => ?_)
          have e : arcHas most p t1 t2 b1 b2 key = false := by unfold arcHas; rw [if_neg h1, if_neg h2, if_neg h3, if_pos h4]
          rw [e]
          exact ⟨_, ⟨rfl, rfl⟩, hw.pickB [0, 1, 2, 3, 4] (by kernel_rfl) (by kernel_rfl) (by kernel_rfl)⟩
        ·
          refine Sq.same [0, 1, 2, 3, 4] (l := arcL b lt1 lt2 lb1 lb2 most p t1 t2 b1 b2 n) (o_call (by kernel_rfl) Try.call25 (arc_at4 (n := n) (most := most) (p := p) (t1 := t1) (t2 := t2) (b1 := b1) (b2 := b2) key (by omega) h1 h2 h3 h4)) (by kernel_rfl) rfl (by kernel_rfl) rfl ?_
          refine Sq.vals [3, 4] (rest := []) [bV false, bV false] (fun w => by kernel_rfl) ?_
          refine Sq.done ?_
          refine Ex'.next ?_
          refine Cd.ret ?_
          refine Ex'.ret Try.results16 (RVs.tmp (v := bV false) (by kernel_rfl) (RVs.nil)) (fun w hw => ?_)
          have e : arcHas most p t1 t2 b1 b2 key = false := by unfold arcHas; rw [if_neg h1, if_neg h2, if_neg h3, if_neg h4]
          rw [e]
          exact ⟨_, ⟨rfl, rfl⟩, hw.pickB [0, 1, 2, 3, 4] (by kernel_rfl) (by kernel_rfl) (by kernel_rfl)⟩

def arcLen (most : Int) (p : Int) (t1 : List ByteArray) (t2 : List ByteArray) (b1 : List ByteArray) (b2 : List ByteArray)  : Int :=
  (t1.length : Int) + (t2.length : Int)

set_option maxHeartbeats 4000000 in
set_option maxRecDepth 100000 in
theorem arc_Len {b : Nat} {lt1 : Nat} {lt2 : Nat} {lb1 : Nat} {lb2 : Nat} {n : Nat} {most : Int} {p : Int} {t1 : List ByteArray} {t2 : List ByteArray} {b1 : List ByteArray} {b2 : List ByteArray}  (hb : n ≤ 1000000000) : Tri Try.prog 23 #[pV b 0] (arcL b lt1 lt2 lb1 lb2 most p t1 t2 b1 b2 n) (Same (arcL b lt1 lt2 lb1 lb2 most p t1 t2 b1 b2 n) (iV (arcLen most p t1 t2 b1 b2))) := by
  refine Tri.enter (args := [pV b 0]) Try.func23 rfl rfl rfl (fun B wz => ?_)
  refine Cd.fact (i := 1) rfl llR.le ?_; rintro ⟨_, hl1⟩
  refine Cd.fact (i := 2) rfl llR.le ?_; rintro ⟨_, hl2⟩
  refine Cd.fact (i := 3) rfl llR.le ?_; rintro ⟨_, hl3⟩
  refine Cd.fact (i := 4) rfl llR.le ?_; rintro ⟨_, hl4⟩
  refine Cd.seq ?_
  refine Cd.region rfl ?_
  refine Sq.vals [0] (rest := []) [iV 0] (fun w => by kernel_rfl) ?_
  refine Sq.done ?_
  refine Ex'.next ?_
  refine Cd.seq ?_
  refine Cd.sub (subB_spec [0]) ?_
  refine Cd.plan [0, 1, 3, 7, 15, 31, 0, 64, 192, 448, 960, 2047, 4095, 8191] [(4, [(0, false, 0)]), (5, [(1, false, 0)]), (10, [(0, false, 0)]), (11, [(2, false, 0)])] [] [] [] [fun g => pV b 0, fun g => pV b 0, fun g => pV b 2, fun g => pV b 2, fun g => pV lt1 0, fun g => iV (t1.length : Int), fun g => pV b 0, fun g => pV b 0, fun g => pV b 2, fun g => pV b 3, fun g => pV lt2 0, fun g => iV (t2.length : Int), fun g => iV ((t1.length : Int) + (t2.length : Int)), fun g => iV ((t1.length : Int) + (t2.length : Int))] (by kernel_rfl) (by kernel_rfl) rfl (trivial) ?_ ?_
  · exact ⟨ob_val fun g w => by kernel_rfl, ob_val fun g w => by kernel_rfl, ob_val fun g w => by kernel_rfl, ob_val fun g w => by kernel_rfl, ob_s (l := fun g => [arcB b lt1 lt2 lb1 lb2 most p]) (l' := fun g => [arcB b lt1 lt2 lb1 lb2 most p]) (v := fun g => pV lt1 0) (fun g => o_load (i := 2) (v := pV lt1 0) (by kernel_rfl) (by kernel_rfl) (by kernel_rfl)) (fun g => by kernel_rfl), ob_s (l := fun g => [llR lt1 t1 n]) (l' := fun g => [llR lt1 t1 n]) (v := fun g => iV (t1.length : Int)) (fun g => o_call (by kernel_rfl) Try.call26 (t_Len (ks := t1) (n := n))) (fun g => by kernel_rfl), ob_val fun g w => by kernel_rfl, ob_val fun g w => by kernel_rfl, ob_val fun g w => by kernel_rfl, ob_val fun g w => by kernel_rfl, ob_s (l := fun g => [arcB b lt1 lt2 lb1 lb2 most p]) (l' := fun g => [arcB b lt1 lt2 lb1 lb2 most p]) (v := fun g => pV lt2 0) (fun g => o_load (i := 3) (v := pV lt2 0) (by kernel_rfl) (by kernel_rfl) (by kernel_rfl)) (fun g => by kernel_rfl), ob_s (l := fun g => [llR lt2 t2 n]) (l' := fun g => [llR lt2 t2 n]) (v := fun g => iV (t2.length : Int)) (fun g => o_call (by kernel_rfl) Try.call26 (t_Len (ks := t2) (n := n))) (fun g => by kernel_rfl), ob_v (v := fun g => iV ((t1.length : Int) + (t2.length : Int))) (fun g => o_add (k := .i64) (a := (t1.length : Int)) (b := (t2.length : Int)) (c := (t1.length : Int) + (t2.length : Int)) (by kernel_rfl) (by kernel_rfl) (w64 rfl (by omega))) (fun g => by kernel_rfl), ob_val fun g w => by kernel_rfl, trivial⟩
  intro g
  refine Ex'.sub (subB_spec [2]) ?_
  refine Ex'.as [0, 1, 2, 3, 4] (σ' := [(2, iV ((t1.length : Int) + (t2.length : Int)))]) (Γ' := [arcB b lt1 lt2 lb1 lb2 most p, llR lt1 t1 n, llR lt2 t2 n, llR lb1 b1 n, llR lb2 b2 n]) (by kernel_rfl) rfl (by kernel_rfl) (by kernel_rfl) ?_
  refine Ex'.next ?_
  refine Cd.ret ?_
  refine Ex'.ret Try.results23 (RVs.tmp (v := iV ((t1.length : Int) + (t2.length : Int))) (by kernel_rfl) (RVs.nil)) (fun w hw => ?_)
  have e : arcLen most p t1 t2 b1 b2 = (t1.length : Int) + (t2.length : Int) := by unfold arcLen; rfl
  rw [e]
  exact ⟨_, ⟨rfl, rfl⟩, hw.pickB [0, 1, 2, 3, 4] (by kernel_rfl) (by kernel_rfl) (by kernel_rfl)⟩

def arcShare (most : Int) (p : Int) (t1 : List ByteArray) (t2 : List ByteArray) (b1 : List ByteArray) (b2 : List ByteArray)  : Int :=
  p

set_option maxHeartbeats 4000000 in
set_option maxRecDepth 100000 in
theorem arc_Share {b : Nat} {lt1 : Nat} {lt2 : Nat} {lb1 : Nat} {lb2 : Nat} {n : Nat} {most : Int} {p : Int} {t1 : List ByteArray} {t2 : List ByteArray} {b1 : List ByteArray} {b2 : List ByteArray}  (hb : n ≤ 1000000000) : Tri Try.prog 11 #[pV b 0] (arcL b lt1 lt2 lb1 lb2 most p t1 t2 b1 b2 n) (Same (arcL b lt1 lt2 lb1 lb2 most p t1 t2 b1 b2 n) (iV (arcShare most p t1 t2 b1 b2))) := by
  refine Tri.enter (args := [pV b 0]) Try.func11 rfl rfl rfl (fun B wz => ?_)
  refine Cd.seq ?_
  refine Cd.region rfl ?_
  refine Sq.vals [0] (rest := []) [iV 0] (fun w => by kernel_rfl) ?_
  refine Sq.done ?_
  refine Ex'.next ?_
  refine Cd.seq ?_
  refine Cd.region rfl ?_
  refine Sq.vals [0, 1, 2] (rest := [3, 4]) [pV b 0, pV b 0, pV b 1] (fun w => by kernel_rfl) ?_
  refine Sq.same [0] (l := [arcB b lt1 lt2 lb1 lb2 most p]) (o_load (i := 1) (v := iV p) (by kernel_rfl) (by kernel_rfl) (by kernel_rfl)) (by kernel_rfl) rfl (by kernel_rfl) rfl ?_
  refine Sq.vals [4] (rest := []) [iV p] (fun w => by kernel_rfl) ?_
  refine Sq.done ?_
  refine Ex'.next ?_
  refine Cd.ret ?_
  refine Ex'.ret Try.results11 (RVs.tmp (v := iV p) (by kernel_rfl) (RVs.nil)) (fun w hw => ?_)
  have e : arcShare most p t1 t2 b1 b2 = p := by unfold arcShare; rfl
  rw [e]
  exact ⟨_, ⟨rfl, rfl⟩, hw.pickB [0, 1, 2, 3, 4] (by kernel_rfl) (by kernel_rfl) (by kernel_rfl)⟩

def arcSizes (most : Int) (p : Int) (t1 : List ByteArray) (t2 : List ByteArray) (b1 : List ByteArray) (b2 : List ByteArray)  : Int × Int × Int × Int :=
  ((t1.length : Int), (t2.length : Int), (b1.length : Int), (b2.length : Int))

set_option maxHeartbeats 4000000 in
set_option maxRecDepth 100000 in
theorem arc_Sizes {b : Nat} {lt1 : Nat} {lt2 : Nat} {lb1 : Nat} {lb2 : Nat} {n : Nat} {most : Int} {p : Int} {t1 : List ByteArray} {t2 : List ByteArray} {b1 : List ByteArray} {b2 : List ByteArray}  (hb : n ≤ 1000000000) : Tri Try.prog 12 #[pV b 0] (arcL b lt1 lt2 lb1 lb2 most p t1 t2 b1 b2 n) (Same (arcL b lt1 lt2 lb1 lb2 most p t1 t2 b1 b2 n) (.agg #[iV ((arcSizes most p t1 t2 b1 b2).1), iV ((arcSizes most p t1 t2 b1 b2).2.1), iV ((arcSizes most p t1 t2 b1 b2).2.2.1), iV ((arcSizes most p t1 t2 b1 b2).2.2.2)])) := by
  refine Tri.enter (args := [pV b 0]) Try.func12 rfl rfl rfl (fun B wz => ?_)
  refine Cd.seq ?_
  refine Cd.region rfl ?_
  refine Sq.ex [] (l := []) (o_new [iV 0, iV 0, iV 0, iV 0] (fun w => by kernel_rfl)) (by kernel_rfl) rfl (by kernel_rfl) (fun _ => Nat.zero_le _) ?_; intro b3 _
  refine Sq.done ?_
  refine Ex'.next ?_
  refine Cd.seq ?_
  refine Cd.region rfl ?_
  refine Sq.ex [] (l := []) (o_new [iV 0, iV 0, iV 0, iV 0] (fun w => by kernel_rfl)) (by kernel_rfl) rfl (by kernel_rfl) (fun _ => Nat.zero_le _) ?_; intro b4 _
  refine Sq.done ?_
  refine Ex'.next ?_
  refine Cd.seq ?_
  refine Cd.seq ?_
  refine Cd.region rfl ?_
  refine Sq.vals [0, 1, 2] (rest := [3, 4]) [pV b 0, pV b 0, pV b 2] (fun w => by kernel_rfl) ?_
  refine Sq.same [0] (l := [arcB b lt1 lt2 lb1 lb2 most p]) (o_loadN (i := 2) [pV lt1 0, pV lt2 0, pV lb1 0, pV lb2 0] (by kernel_rfl) (by kernel_rfl) (by kernel_rfl)) (by kernel_rfl) rfl (by kernel_rfl) rfl ?_
  refine Sq.vals [4] (rest := []) [iV 0] (fun w => by kernel_rfl) ?_
  refine Sq.done ?_
  refine Ex'.next ?_
  refine Cd.block ?_
  refine Cd.unroll 5 ?_
  refine Cd.seq ?_
  refine Cd.region rfl ?_
  refine Sq.vals [0] (rest := []) [bV true] (fun w => by kernel_rfl) ?_
  refine Sq.done ?_
  refine Ex'.next ?_
  refine Cd.seq ?_
  refine Cd.condT (by kernel_rfl) ?_
  refine Cd.skip ?_
  refine Ex'.next ?_
  refine Cd.seq ?_
  refine Cd.block ?_
  refine Cd.seq ?_
  refine Cd.region rfl ?_
  refine Sq.vals [0, 1, 2, 3] (rest := []) [iV 0, pV lt1 0, iV 0, pV lt1 0] (fun w => by kernel_rfl) ?_
  refine Sq.done ?_
  refine Ex'.next ?_
  refine Cd.region rfl ?_
  refine Sq.vals [0, 1] (rest := [2, 3, 4]) [iV 0, pV lt1 0] (fun w => by kernel_rfl) ?_
  refine Sq.same [1] (l := [llR lt1 t1 n]) (o_call (by kernel_rfl) Try.call26 (t_Len (ks := t1) (n := n))) (by kernel_rfl) rfl (by kernel_rfl) rfl ?_
  refine Sq.vals [3] (rest := [4]) [pV b4 0] (fun w => by kernel_rfl) ?_
  refine Sq.same [6] (l := [blkR b4 [iV 0, iV 0, iV 0, iV 0] 31]) (o_store (i := 0) (v := iV (t1.length : Int)) (by kernel_rfl) (by kernel_rfl) (by kernel_rfl) (by kernel_rfl) (by kernel_rfl)) (by kernel_rfl) rfl (by kernel_rfl) rfl ?_
  refine Sq.done ?_
  refine Ex'.blockNormal ?_
  refine Ex'.next ?_
  refine Cd.region rfl ?_
  refine Sq.vals [0, 1] (rest := []) [iV 1, iV 1] (fun w => by kernel_rfl) ?_
  refine Sq.done ?_
  refine Ex'.again ?_
  refine Cd.seq ?_
  refine Cd.region rfl ?_
  refine Sq.vals [0] (rest := []) [bV true] (fun w => by kernel_rfl) ?_
  refine Sq.done ?_
  refine Ex'.next ?_
  refine Cd.seq ?_
  refine Cd.condT (by kernel_rfl) ?_
  refine Cd.skip ?_
  refine Ex'.next ?_
  refine Cd.seq ?_
  refine Cd.block ?_
  refine Cd.seq ?_
  refine Cd.region rfl ?_
  refine Sq.vals [0, 1, 2, 3] (rest := []) [iV 1, pV lt2 0, iV 1, pV lt2 0] (fun w => by kernel_rfl) ?_
  refine Sq.done ?_
  refine Ex'.next ?_
  refine Cd.region rfl ?_
  refine Sq.vals [0, 1] (rest := [2, 3, 4]) [iV 1, pV lt2 0] (fun w => by kernel_rfl) ?_
  refine Sq.same [2] (l := [llR lt2 t2 n]) (o_call (by kernel_rfl) Try.call26 (t_Len (ks := t2) (n := n))) (by kernel_rfl) rfl (by kernel_rfl) rfl ?_
  refine Sq.vals [3] (rest := [4]) [pV b4 1] (fun w => by kernel_rfl) ?_
  refine Sq.same [6] (l := [blkR b4 [iV (t1.length : Int), iV 0, iV 0, iV 0] 31]) (o_store (i := 1) (v := iV (t2.length : Int)) (by kernel_rfl) (by kernel_rfl) (by kernel_rfl) (by kernel_rfl) (by kernel_rfl)) (by kernel_rfl) rfl (by kernel_rfl) rfl ?_
  refine Sq.done ?_
  refine Ex'.blockNormal ?_
  refine Ex'.next ?_
  refine Cd.region rfl ?_
  refine Sq.vals [0, 1] (rest := []) [iV 2, iV 2] (fun w => by kernel_rfl) ?_
  refine Sq.done ?_
  refine Ex'.again ?_
  refine Cd.seq ?_
  refine Cd.region rfl ?_
  refine Sq.vals [0] (rest := []) [bV true] (fun w => by kernel_rfl) ?_
  refine Sq.done ?_
  refine Ex'.next ?_
  refine Cd.seq ?_
  refine Cd.condT (by kernel_rfl) ?_
  refine Cd.skip ?_
  refine Ex'.next ?_
  refine Cd.seq ?_
  refine Cd.block ?_
  refine Cd.seq ?_
  refine Cd.region rfl ?_
  refine Sq.vals [0, 1, 2, 3] (rest := []) [iV 2, pV lb1 0, iV 2, pV lb1 0] (fun w => by kernel_rfl) ?_
  refine Sq.done ?_
  refine Ex'.next ?_
  refine Cd.region rfl ?_
  refine Sq.vals [0, 1] (rest := [2, 3, 4]) [iV 2, pV lb1 0] (fun w => by kernel_rfl) ?_
  refine Sq.same [3] (l := [llR lb1 b1 n]) (o_call (by kernel_rfl) Try.call26 (t_Len (ks := b1) (n := n))) (by kernel_rfl) rfl (by kernel_rfl) rfl ?_
  refine Sq.vals [3] (rest := [4]) [pV b4 2] (fun w => by kernel_rfl) ?_
  refine Sq.same [6] (l := [blkR b4 [iV (t1.length : Int), iV (t2.length : Int), iV 0, iV 0] 31]) (o_store (i := 2) (v := iV (b1.length : Int)) (by kernel_rfl) (by kernel_rfl) (by kernel_rfl) (by kernel_rfl) (by kernel_rfl)) (by kernel_rfl) rfl (by kernel_rfl) rfl ?_
  refine Sq.done ?_
  refine Ex'.blockNormal ?_
  refine Ex'.next ?_
  refine Cd.region rfl ?_
  refine Sq.vals [0, 1] (rest := []) [iV 3, iV 3] (fun w => by kernel_rfl) ?_
  refine Sq.done ?_
  refine Ex'.again ?_
  refine Cd.seq ?_
  refine Cd.region rfl ?_
  refine Sq.vals [0] (rest := []) [bV true] (fun w => by kernel_rfl) ?_
  refine Sq.done ?_
  refine Ex'.next ?_
  refine Cd.seq ?_
  refine Cd.condT (by kernel_rfl) ?_
  refine Cd.skip ?_
  refine Ex'.next ?_
  refine Cd.seq ?_
  refine Cd.block ?_
  refine Cd.seq ?_
  refine Cd.region rfl ?_
  refine Sq.vals [0, 1, 2, 3] (rest := []) [iV 3, pV lb2 0, iV 3, pV lb2 0] (fun w => by kernel_rfl) ?_
  refine Sq.done ?_
  refine Ex'.next ?_
  refine Cd.region rfl ?_
  refine Sq.vals [0, 1] (rest := [2, 3, 4]) [iV 3, pV lb2 0] (fun w => by kernel_rfl) ?_
  refine Sq.same [4] (l := [llR lb2 b2 n]) (o_call (by kernel_rfl) Try.call26 (t_Len (ks := b2) (n := n))) (by kernel_rfl) rfl (by kernel_rfl) rfl ?_
  refine Sq.vals [3] (rest := [4]) [pV b4 3] (fun w => by kernel_rfl) ?_
  refine Sq.same [6] (l := [blkR b4 [iV (t1.length : Int), iV (t2.length : Int), iV (b1.length : Int), iV 0] 31]) (o_store (i := 3) (v := iV (b2.length : Int)) (by kernel_rfl) (by kernel_rfl) (by kernel_rfl) (by kernel_rfl) (by kernel_rfl)) (by kernel_rfl) rfl (by kernel_rfl) rfl ?_
  refine Sq.done ?_
  refine Ex'.blockNormal ?_
  refine Ex'.next ?_
  refine Cd.region rfl ?_
  refine Sq.vals [0, 1] (rest := []) [iV 4, iV 4] (fun w => by kernel_rfl) ?_
  refine Sq.done ?_
  refine Ex'.again ?_
  refine Cd.seq ?_
  refine Cd.region rfl ?_
  refine Sq.vals [0] (rest := []) [bV false] (fun w => by kernel_rfl) ?_
  refine Sq.done ?_
  refine Ex'.next ?_
  refine Cd.seq ?_
  refine Cd.condF (by kernel_rfl) ?_
  refine Cd.exit ?_
  refine Ex'.thenExit ?_
  refine Ex'.thenExit ?_
  refine Ex'.blockHit ?_
  refine Ex'.next ?_
  refine Cd.seq ?_
  refine Cd.region rfl ?_
  refine Sq.same [6] (l := [blkR b4 [iV (t1.length : Int), iV (t2.length : Int), iV (b1.length : Int), iV (b2.length : Int)] 31]) (o_loadN (i := 0) [iV (t1.length : Int), iV (t2.length : Int), iV (b1.length : Int), iV (b2.length : Int)] (by kernel_rfl) (by kernel_rfl) (by kernel_rfl)) (by kernel_rfl) rfl (by kernel_rfl) rfl ?_
  refine Sq.same [5] (l := [blkR b3 [iV 0, iV 0, iV 0, iV 0] 31]) (o_store (i := 0) (v := .agg #[iV (t1.length : Int), iV (t2.length : Int), iV (b1.length : Int), iV (b2.length : Int)]) (by kernel_rfl) (by kernel_rfl) (by kernel_rfl) (by kernel_rfl) (by kernel_rfl)) (by kernel_rfl) rfl (by kernel_rfl) rfl ?_
  refine Sq.done ?_
  refine Ex'.next ?_
  refine Cd.ret ?_
  refine Ex'.ret Try.results12 (RVs.cellN (i := 0) (b := b3) (l := [iV (t1.length : Int), iV (t2.length : Int), iV (b1.length : Int), iV (b2.length : Int)]) (E := 31) [iV (t1.length : Int), iV (t2.length : Int), iV (b1.length : Int), iV (b2.length : Int)] 5 (by kernel_rfl) (by kernel_rfl) (by kernel_rfl) (by kernel_rfl) (RVs.nil)) (fun w hw => ?_)
  have e : arcSizes most p t1 t2 b1 b2 = ((t1.length : Int), (t2.length : Int), (b1.length : Int), (b2.length : Int)) := by unfold arcSizes; rfl
  rw [e]
  exact ⟨_, ⟨rfl, rfl⟩, hw.pickB [0, 1, 2, 3, 4] (by kernel_rfl) (by kernel_rfl) (by kernel_rfl)⟩

def arcAll2 (most : Int) (p : Int) (t1 : List ByteArray) (t2 : List ByteArray) (b1 : List ByteArray) (b2 : List ByteArray)  : Int :=
  0 + (t1.length : Int) + (b1.length : Int)

set_option maxHeartbeats 4000000 in
set_option maxRecDepth 100000 in
theorem arc_all2 {b : Nat} {lt1 : Nat} {lt2 : Nat} {lb1 : Nat} {lb2 : Nat} {n : Nat} {most : Int} {p : Int} {t1 : List ByteArray} {t2 : List ByteArray} {b1 : List ByteArray} {b2 : List ByteArray} {bx : Nat}  (hb : n ≤ 1000000000) : Tri Try.prog 37 #[pV b 0, .slice (some ⟨bx, 0, none⟩) 2 2] (arcL b lt1 lt2 lb1 lb2 most p t1 t2 b1 b2 n ++ [blkR bx [iV 0, iV 2] 3]) (Same (arcL b lt1 lt2 lb1 lb2 most p t1 t2 b1 b2 n ++ [blkR bx [iV 0, iV 2] 3]) (iV (arcAll2 most p t1 t2 b1 b2))) := by
  refine Tri.enter (args := [pV b 0, .slice (some ⟨bx, 0, none⟩) 2 2]) Try.func37 rfl rfl rfl (fun B wz => ?_)
  refine Cd.fact (i := 1) rfl llR.le ?_; rintro ⟨_, hl1⟩
  refine Cd.fact (i := 2) rfl llR.le ?_; rintro ⟨_, hl2⟩
  refine Cd.fact (i := 3) rfl llR.le ?_; rintro ⟨_, hl3⟩
  refine Cd.fact (i := 4) rfl llR.le ?_; rintro ⟨_, hl4⟩
  refine Cd.seq ?_
  refine Cd.region rfl ?_
  refine Sq.vals [0] (rest := []) [iV 0] (fun w => by kernel_rfl) ?_
  refine Sq.done ?_
  refine Ex'.next ?_
  refine Cd.seq ?_
  refine Cd.region rfl ?_
  refine Sq.vals [0] (rest := []) [iV 0] (fun w => by kernel_rfl) ?_
  refine Sq.done ?_
  refine Ex'.next ?_
  refine Cd.seq ?_
  refine Cd.seq ?_
  refine Cd.region rfl ?_
  refine Sq.vals [0, 1, 2] (rest := []) [.slice (some ⟨bx, 0, none⟩) 2 2, iV 2, iV 0] (fun w => by kernel_rfl) ?_
  refine Sq.done ?_
  refine Ex'.next ?_
  refine Cd.block ?_
  refine Cd.unroll 3 ?_
  refine Cd.seq ?_
  refine Cd.region rfl ?_
  refine Sq.vals [0] (rest := []) [bV true] (fun w => by kernel_rfl) ?_
  refine Sq.done ?_
  refine Ex'.next ?_
  refine Cd.seq ?_
  refine Cd.condT (by kernel_rfl) ?_
  refine Cd.skip ?_
  refine Ex'.next ?_
  refine Cd.seq ?_
  refine Cd.block ?_
  refine Cd.seq ?_
  refine Cd.region rfl ?_
  refine Sq.v (r := pV bx 0) (o_idx (b := bx) (cap := 2) (e := 3) (off := 0) (n := 2) (kd := .i64) (q := 0) (i := 0) (size := 1) (j := 0) (by kernel_rfl) (by kernel_rfl) (by rfl) (by omega) Try.underlying59 (by kernel_rfl) (by omega)) rfl (by kernel_rfl) ?_
  refine Sq.same [5] (l := [blkR bx [iV 0, iV 2] 3]) (o_load (i := 0) (v := iV 0) (by kernel_rfl) (by kernel_rfl) (by kernel_rfl)) (by kernel_rfl) rfl (by kernel_rfl) rfl ?_
  refine Sq.vals [2] (rest := []) [iV 0] (fun w => by kernel_rfl) ?_
  refine Sq.done ?_
  refine Ex'.next ?_
  refine Cd.region rfl ?_
  refine Sq.vals [0, 1, 2, 3, 4, 5] (rest := [6, 7, 8, 9]) [iV 0, pV b 0, iV 0, pV b 0, pV b 2, pV b 2] (fun w => by kernel_rfl) ?_
  refine Sq.same [0] (l := [arcB b lt1 lt2 lb1 lb2 most p]) (o_load (i := 2) (v := pV lt1 0) (by kernel_rfl) (by kernel_rfl) (by kernel_rfl)) (by kernel_rfl) rfl (by kernel_rfl) rfl ?_
  refine Sq.same [1] (l := [llR lt1 t1 n]) (o_call (by kernel_rfl) Try.call26 (t_Len (ks := t1) (n := n))) (by kernel_rfl) rfl (by kernel_rfl) rfl ?_
  refine Sq.v (r := iV (0 + (t1.length : Int))) (o_add (k := .i64) (a := 0) (b := (t1.length : Int)) (c := 0 + (t1.length : Int)) (by kernel_rfl) (by kernel_rfl) (w64 rfl (by omega))) rfl (by kernel_rfl) ?_
  refine Sq.vals [9] (rest := []) [iV (0 + (t1.length : Int))] (fun w => by kernel_rfl) ?_
  refine Sq.done ?_
  refine Ex'.blockNormal ?_
  refine Ex'.next ?_
  refine Cd.region rfl ?_
  refine Sq.vals [0, 1] (rest := []) [iV 1, iV 1] (fun w => by kernel_rfl) ?_
  refine Sq.done ?_
  refine Ex'.again ?_
  refine Cd.seq ?_
  refine Cd.region rfl ?_
  refine Sq.vals [0] (rest := []) [bV true] (fun w => by kernel_rfl) ?_
  refine Sq.done ?_
  refine Ex'.next ?_
  refine Cd.seq ?_
  refine Cd.condT (by kernel_rfl) ?_
  refine Cd.skip ?_
  refine Ex'.next ?_
  refine Cd.seq ?_
  refine Cd.block ?_
  refine Cd.seq ?_
  refine Cd.region rfl ?_
  refine Sq.v (r := pV bx 1) (o_idx (b := bx) (cap := 2) (e := 3) (off := 0) (n := 2) (kd := .i64) (q := 1) (i := 1) (size := 1) (j := 1) (by kernel_rfl) (by kernel_rfl) (by rfl) (by omega) Try.underlying59 (by kernel_rfl) (by omega)) rfl (by kernel_rfl) ?_
  refine Sq.same [5] (l := [blkR bx [iV 0, iV 2] 3]) (o_load (i := 1) (v := iV 2) (by kernel_rfl) (by kernel_rfl) (by kernel_rfl)) (by kernel_rfl) rfl (by kernel_rfl) rfl ?_
  refine Sq.vals [2] (rest := []) [iV 2] (fun w => by kernel_rfl) ?_
  refine Sq.done ?_
  refine Ex'.next ?_
  refine Cd.region rfl ?_
  refine Sq.vals [0, 1, 2, 3, 4, 5] (rest := [6, 7, 8, 9]) [iV (0 + (t1.length : Int)), pV b 0, iV 2, pV b 0, pV b 2, pV b 4] (fun w => by kernel_rfl) ?_
  refine Sq.same [0] (l := [arcB b lt1 lt2 lb1 lb2 most p]) (o_load (i := 4) (v := pV lb1 0) (by kernel_rfl) (by kernel_rfl) (by kernel_rfl)) (by kernel_rfl) rfl (by kernel_rfl) rfl ?_
  refine Sq.same [3] (l := [llR lb1 b1 n]) (o_call (by kernel_rfl) Try.call26 (t_Len (ks := b1) (n := n))) (by kernel_rfl) rfl (by kernel_rfl) rfl ?_
  refine Sq.v (r := iV (0 + (t1.length : Int) + (b1.length : Int))) (o_add (k := .i64) (a := 0 + (t1.length : Int)) (b := (b1.length : Int)) (c := 0 + (t1.length : Int) + (b1.length : Int)) (by kernel_rfl) (by kernel_rfl) (w64 rfl (by omega))) rfl (by kernel_rfl) ?_
  refine Sq.vals [9] (rest := []) [iV (0 + (t1.length : Int) + (b1.length : Int))] (fun w => by kernel_rfl) ?_
  refine Sq.done ?_
  refine Ex'.blockNormal ?_
  refine Ex'.next ?_
  refine Cd.region rfl ?_
  refine Sq.vals [0, 1] (rest := []) [iV 2, iV 2] (fun w => by kernel_rfl) ?_
  refine Sq.done ?_
  refine Ex'.again ?_
  refine Cd.seq ?_
  refine Cd.region rfl ?_
  refine Sq.vals [0] (rest := []) [bV false] (fun w => by kernel_rfl) ?_
  refine Sq.done ?_
  refine Ex'.next ?_
  refine Cd.seq ?_
  refine Cd.condF (by kernel_rfl) ?_
  refine Cd.exit ?_
  refine Ex'.thenExit ?_
  refine Ex'.thenExit ?_
  refine Ex'.blockHit ?_
  refine Ex'.next ?_
  refine Cd.seq ?_
  refine Cd.region rfl ?_
  refine Sq.vals [0, 1] (rest := []) [iV (0 + (t1.length : Int) + (b1.length : Int)), iV (0 + (t1.length : Int) + (b1.length : Int))] (fun w => by kernel_rfl) ?_
  refine Sq.done ?_
  refine Ex'.next ?_
  refine Cd.ret ?_
  refine Ex'.ret Try.results37 (RVs.tmp (v := iV (0 + (t1.length : Int) + (b1.length : Int))) (by kernel_rfl) (RVs.nil)) (fun w hw => ?_)
  have e : arcAll2 most p t1 t2 b1 b2 = 0 + (t1.length : Int) + (b1.length : Int) := by unfold arcAll2; rfl
  rw [e]
  exact ⟨_, ⟨rfl, rfl⟩, hw.pickB [0, 1, 2, 3, 4, 5] (by kernel_rfl) (by kernel_rfl) (by kernel_rfl)⟩

theorem arcAll2_eq {most p : Int} {t1 t2 b1 b2 : List ByteArray} : arcAll2 most p t1 t2 b1 b2 = (t1.length : Int) + (b1.length : Int) := by unfold arcAll2; omega

def arcAll4 (most : Int) (p : Int) (t1 : List ByteArray) (t2 : List ByteArray) (b1 : List ByteArray) (b2 : List ByteArray)  : Int :=
  0 + (t1.length : Int) + (t2.length : Int) + (b1.length : Int) + (b2.length : Int)

set_option maxHeartbeats 4000000 in
set_option maxRecDepth 100000 in
theorem arc_all4 {b : Nat} {lt1 : Nat} {lt2 : Nat} {lb1 : Nat} {lb2 : Nat} {n : Nat} {most : Int} {p : Int} {t1 : List ByteArray} {t2 : List ByteArray} {b1 : List ByteArray} {b2 : List ByteArray} {bx : Nat}  (hb : n ≤ 1000000000) : Tri Try.prog 37 #[pV b 0, .slice (some ⟨bx, 0, none⟩) 4 4] (arcL b lt1 lt2 lb1 lb2 most p t1 t2 b1 b2 n ++ [blkR bx [iV 0, iV 1, iV 2, iV 3] 3]) (Same (arcL b lt1 lt2 lb1 lb2 most p t1 t2 b1 b2 n ++ [blkR bx [iV 0, iV 1, iV 2, iV 3] 3]) (iV (arcAll4 most p t1 t2 b1 b2))) := by
  refine Tri.enter (args := [pV b 0, .slice (some ⟨bx, 0, none⟩) 4 4]) Try.func37 rfl rfl rfl (fun B wz => ?_)
  refine Cd.fact (i := 1) rfl llR.le ?_; rintro ⟨_, hl1⟩
  refine Cd.fact (i := 2) rfl llR.le ?_; rintro ⟨_, hl2⟩
  refine Cd.fact (i := 3) rfl llR.le ?_; rintro ⟨_, hl3⟩
  refine Cd.fact (i := 4) rfl llR.le ?_; rintro ⟨_, hl4⟩
  refine Cd.seq ?_
  refine Cd.region rfl ?_
  refine Sq.vals [0] (rest := []) [iV 0] (fun w => by kernel_rfl) ?_
  refine Sq.done ?_
  refine Ex'.next ?_
  refine Cd.seq ?_
  refine Cd.region rfl ?_
  refine Sq.vals [0] (rest := []) [iV 0] (fun w => by kernel_rfl) ?_
  refine Sq.done ?_
  refine Ex'.next ?_
  refine Cd.seq ?_
  refine Cd.seq ?_
  refine Cd.region rfl ?_
  refine Sq.vals [0, 1, 2] (rest := []) [.slice (some ⟨bx, 0, none⟩) 4 4, iV 4, iV 0] (fun w => by kernel_rfl) ?_
  refine Sq.done ?_
  refine Ex'.next ?_
  refine Cd.block ?_
  refine Cd.unroll 5 ?_
  refine Cd.seq ?_
  refine Cd.region rfl ?_
  refine Sq.vals [0] (rest := []) [bV true] (fun w => by kernel_rfl) ?_
  refine Sq.done ?_
  refine Ex'.next ?_
  refine Cd.seq ?_
  refine Cd.condT (by kernel_rfl) ?_
  refine Cd.skip ?_
  refine Ex'.next ?_
  refine Cd.seq ?_
  refine Cd.block ?_
  refine Cd.seq ?_
  refine Cd.region rfl ?_
  refine Sq.v (r := pV bx 0) (o_idx (b := bx) (cap := 4) (e := 3) (off := 0) (n := 4) (kd := .i64) (q := 0) (i := 0) (size := 1) (j := 0) (by kernel_rfl) (by kernel_rfl) (by rfl) (by omega) Try.underlying59 (by kernel_rfl) (by omega)) rfl (by kernel_rfl) ?_
  refine Sq.same [5] (l := [blkR bx [iV 0, iV 1, iV 2, iV 3] 3]) (o_load (i := 0) (v := iV 0) (by kernel_rfl) (by kernel_rfl) (by kernel_rfl)) (by kernel_rfl) rfl (by kernel_rfl) rfl ?_
  refine Sq.vals [2] (rest := []) [iV 0] (fun w => by kernel_rfl) ?_
  refine Sq.done ?_
  refine Ex'.next ?_
  refine Cd.region rfl ?_
  refine Sq.vals [0, 1, 2, 3, 4, 5] (rest := [6, 7, 8, 9]) [iV 0, pV b 0, iV 0, pV b 0, pV b 2, pV b 2] (fun w => by kernel_rfl) ?_
  refine Sq.same [0] (l := [arcB b lt1 lt2 lb1 lb2 most p]) (o_load (i := 2) (v := pV lt1 0) (by kernel_rfl) (by kernel_rfl) (by kernel_rfl)) (by kernel_rfl) rfl (by kernel_rfl) rfl ?_
  refine Sq.same [1] (l := [llR lt1 t1 n]) (o_call (by kernel_rfl) Try.call26 (t_Len (ks := t1) (n := n))) (by kernel_rfl) rfl (by kernel_rfl) rfl ?_
  refine Sq.v (r := iV (0 + (t1.length : Int))) (o_add (k := .i64) (a := 0) (b := (t1.length : Int)) (c := 0 + (t1.length : Int)) (by kernel_rfl) (by kernel_rfl) (w64 rfl (by omega))) rfl (by kernel_rfl) ?_
  refine Sq.vals [9] (rest := []) [iV (0 + (t1.length : Int))] (fun w => by kernel_rfl) ?_
  refine Sq.done ?_
  refine Ex'.blockNormal ?_
  refine Ex'.next ?_
  refine Cd.region rfl ?_
  refine Sq.vals [0, 1] (rest := []) [iV 1, iV 1] (fun w => by kernel_rfl) ?_
  refine Sq.done ?_
  refine Ex'.again ?_
  refine Cd.seq ?_
  refine Cd.region rfl ?_
  refine Sq.vals [0] (rest := []) [bV true] (fun w => by kernel_rfl) ?_
  refine Sq.done ?_
  refine Ex'.next ?_
  refine Cd.seq ?_
  refine Cd.condT (by kernel_rfl) ?_
  refine Cd.skip ?_
  refine Ex'.next ?_
  refine Cd.seq ?_
  refine Cd.block ?_
  refine Cd.seq ?_
  refine Cd.region rfl ?_
  refine Sq.v (r := pV bx 1) (o_idx (b := bx) (cap := 4) (e := 3) (off := 0) (n := 4) (kd := .i64) (q := 1) (i := 1) (size := 1) (j := 1) (by kernel_rfl) (by kernel_rfl) (by rfl) (by omega) Try.underlying59 (by kernel_rfl) (by omega)) rfl (by kernel_rfl) ?_
  refine Sq.same [5] (l := [blkR bx [iV 0, iV 1, iV 2, iV 3] 3]) (o_load (i := 1) (v := iV 1) (by kernel_rfl) (by kernel_rfl) (by kernel_rfl)) (by kernel_rfl) rfl (by kernel_rfl) rfl ?_
  refine Sq.vals [2] (rest := []) [iV 1] (fun w => by kernel_rfl) ?_
  refine Sq.done ?_
  refine Ex'.next ?_
  refine Cd.region rfl ?_
  refine Sq.vals [0, 1, 2, 3, 4, 5] (rest := [6, 7, 8, 9]) [iV (0 + (t1.length : Int)), pV b 0, iV 1, pV b 0, pV b 2, pV b 3] (fun w => by kernel_rfl) ?_
  refine Sq.same [0] (l := [arcB b lt1 lt2 lb1 lb2 most p]) (o_load (i := 3) (v := pV lt2 0) (by kernel_rfl) (by kernel_rfl) (by kernel_rfl)) (by kernel_rfl) rfl (by kernel_rfl) rfl ?_
  refine Sq.same [2] (l := [llR lt2 t2 n]) (o_call (by kernel_rfl) Try.call26 (t_Len (ks := t2) (n := n))) (by kernel_rfl) rfl (by kernel_rfl) rfl ?_
  refine Sq.v (r := iV (0 + (t1.length : Int) + (t2.length : Int))) (o_add (k := .i64) (a := 0 + (t1.length : Int)) (b := (t2.length : Int)) (c := 0 + (t1.length : Int) + (t2.length : Int)) (by kernel_rfl) (by kernel_rfl) (w64 rfl (by omega))) rfl (by kernel_rfl) ?_
  refine Sq.vals [9] (rest := []) [iV (0 + (t1.length : Int) + (t2.length : Int))] (fun w => by kernel_rfl) ?_
  refine Sq.done ?_
  refine Ex'.blockNormal ?_
  refine Ex'.next ?_
  refine Cd.region rfl ?_
  refine Sq.vals [0, 1] (rest := []) [iV 2, iV 2] (fun w => by kernel_rfl) ?_
  refine Sq.done ?_
  refine Ex'.again ?_
  refine Cd.seq ?_
  refine Cd.region rfl ?_
  refine Sq.vals [0] (rest := []) [bV true] (fun w => by kernel_rfl) ?_
  refine Sq.done ?_
  refine Ex'.next ?_
  refine Cd.seq ?_
  refine Cd.condT (by kernel_rfl) ?_
  refine Cd.skip ?_
  refine Ex'.next ?_
  refine Cd.seq ?_
  refine Cd.block ?_
  refine Cd.seq ?_
  refine Cd.region rfl ?_
  refine Sq.v (r := pV bx 2) (o_idx (b := bx) (cap := 4) (e := 3) (off := 0) (n := 4) (kd := .i64) (q := 2) (i := 2) (size := 1) (j := 2) (by kernel_rfl) (by kernel_rfl) (by rfl) (by omega) Try.underlying59 (by kernel_rfl) (by omega)) rfl (by kernel_rfl) ?_
  refine Sq.same [5] (l := [blkR bx [iV 0, iV 1, iV 2, iV 3] 3]) (o_load (i := 2) (v := iV 2) (by kernel_rfl) (by kernel_rfl) (by kernel_rfl)) (by kernel_rfl) rfl (by kernel_rfl) rfl ?_
  refine Sq.vals [2] (rest := []) [iV 2] (fun w => by kernel_rfl) ?_
  refine Sq.done ?_
  refine Ex'.next ?_
  refine Cd.region rfl ?_
  refine Sq.vals [0, 1, 2, 3, 4, 5] (rest := [6, 7, 8, 9]) [iV (0 + (t1.length : Int) + (t2.length : Int)), pV b 0, iV 2, pV b 0, pV b 2, pV b 4] (fun w => by kernel_rfl) ?_
  refine Sq.same [0] (l := [arcB b lt1 lt2 lb1 lb2 most p]) (o_load (i := 4) (v := pV lb1 0) (by kernel_rfl) (by kernel_rfl) (by kernel_rfl)) (by kernel_rfl) rfl (by kernel_rfl) rfl ?_
  refine Sq.same [3] (l := [llR lb1 b1 n]) (o_call (by kernel_rfl) Try.call26 (t_Len (ks := b1) (n := n))) (by kernel_rfl) rfl (by kernel_rfl) rfl ?_
  refine Sq.v (r := iV (0 + (t1.length : Int) + (t2.length : Int) + (b1.length : Int))) (o_add (k := .i64) (a := 0 + (t1.length : Int) + (t2.length : Int)) (b := (b1.length : Int)) (c := 0 + (t1.length : Int) + (t2.length : Int) + (b1.length : Int)) (by kernel_rfl) (by kernel_rfl) (w64 rfl (by omega))) rfl (by kernel_rfl) ?_
  refine Sq.vals [9] (rest := []) [iV (0 + (t1.length : Int) + (t2.length : Int) + (b1.length : Int))] (fun w => by kernel_rfl) ?_
  refine Sq.done ?_
  refine Ex'.blockNormal ?_
  refine Ex'.next ?_
  refine Cd.region rfl ?_
  refine Sq.vals [0, 1] (rest := []) [iV 3, iV 3] (fun w => by kernel_rfl) ?_
  refine Sq.done ?_
  refine Ex'.again ?_
  refine Cd.seq ?_
  refine Cd.region rfl ?_
  refine Sq.vals [0] (rest := []) [bV true] (fun w => by kernel_rfl) ?_
  refine Sq.done ?_
  refine Ex'.next ?_
  refine Cd.seq ?_
  refine Cd.condT (by kernel_rfl) ?_
  refine Cd.skip ?_
  refine Ex'.next ?_
  refine Cd.seq ?_
  refine Cd.block ?_
  refine Cd.seq ?_
  refine Cd.region rfl ?_
  refine Sq.v (r := pV bx 3) (o_idx (b := bx) (cap := 4) (e := 3) (off := 0) (n := 4) (kd := .i64) (q := 3) (i := 3) (size := 1) (j := 3) (by kernel_rfl) (by kernel_rfl) (by rfl) (by omega) Try.underlying59 (by kernel_rfl) (by omega)) rfl (by kernel_rfl) ?_
  refine Sq.same [5] (l := [blkR bx [iV 0, iV 1, iV 2, iV 3] 3]) (o_load (i := 3) (v := iV 3) (by kernel_rfl) (by kernel_rfl) (by kernel_rfl)) (by kernel_rfl) rfl (by kernel_rfl) rfl ?_
  refine Sq.vals [2] (rest := []) [iV 3] (fun w => by kernel_rfl) ?_
  refine Sq.done ?_
  refine Ex'.next ?_
  refine Cd.region rfl ?_
  refine Sq.vals [0, 1, 2, 3, 4, 5] (rest := [6, 7, 8, 9]) [iV (0 + (t1.length : Int) + (t2.length : Int) + (b1.length : Int)), pV b 0, iV 3, pV b 0, pV b 2, pV b 5] (fun w => by kernel_rfl) ?_
  refine Sq.same [0] (l := [arcB b lt1 lt2 lb1 lb2 most p]) (o_load (i := 5) (v := pV lb2 0) (by kernel_rfl) (by kernel_rfl) (by kernel_rfl)) (by kernel_rfl) rfl (by kernel_rfl) rfl ?_
  refine Sq.same [4] (l := [llR lb2 b2 n]) (o_call (by kernel_rfl) Try.call26 (t_Len (ks := b2) (n := n))) (by kernel_rfl) rfl (by kernel_rfl) rfl ?_
  refine Sq.v (r := iV (0 + (t1.length : Int) + (t2.length : Int) + (b1.length : Int) + (b2.length : Int))) (o_add (k := .i64) (a := 0 + (t1.length : Int) + (t2.length : Int) + (b1.length : Int)) (b := (b2.length : Int)) (c := 0 + (t1.length : Int) + (t2.length : Int) + (b1.length : Int) + (b2.length : Int)) (by kernel_rfl) (by kernel_rfl) (w64 rfl (by omega))) rfl (by kernel_rfl) ?_
  refine Sq.vals [9] (rest := []) [iV (0 + (t1.length : Int) + (t2.length : Int) + (b1.length : Int) + (b2.length : Int))] (fun w => by kernel_rfl) ?_
  refine Sq.done ?_
  refine Ex'.blockNormal ?_
  refine Ex'.next ?_
  refine Cd.region rfl ?_
  refine Sq.vals [0, 1] (rest := []) [iV 4, iV 4] (fun w => by kernel_rfl) ?_
  refine Sq.done ?_
  refine Ex'.again ?_
  refine Cd.seq ?_
  refine Cd.region rfl ?_
  refine Sq.vals [0] (rest := []) [bV false] (fun w => by kernel_rfl) ?_
  refine Sq.done ?_
  refine Ex'.next ?_
  refine Cd.seq ?_
  refine Cd.condF (by kernel_rfl) ?_
  refine Cd.exit ?_
  refine Ex'.thenExit ?_
  refine Ex'.thenExit ?_
  refine Ex'.blockHit ?_
  refine Ex'.next ?_
  refine Cd.seq ?_
  refine Cd.region rfl ?_
  refine Sq.vals [0, 1] (rest := []) [iV (0 + (t1.length : Int) + (t2.length : Int) + (b1.length : Int) + (b2.length : Int)), iV (0 + (t1.length : Int) + (t2.length : Int) + (b1.length : Int) + (b2.length : Int))] (fun w => by kernel_rfl) ?_
  refine Sq.done ?_
  refine Ex'.next ?_
  refine Cd.ret ?_
  refine Ex'.ret Try.results37 (RVs.tmp (v := iV (0 + (t1.length : Int) + (t2.length : Int) + (b1.length : Int) + (b2.length : Int))) (by kernel_rfl) (RVs.nil)) (fun w hw => ?_)
  have e : arcAll4 most p t1 t2 b1 b2 = 0 + (t1.length : Int) + (t2.length : Int) + (b1.length : Int) + (b2.length : Int) := by unfold arcAll4; rfl
  rw [e]
  exact ⟨_, ⟨rfl, rfl⟩, hw.pickB [0, 1, 2, 3, 4, 5] (by kernel_rfl) (by kernel_rfl) (by kernel_rfl)⟩

theorem arcAll4_eq {most p : Int} {t1 t2 b1 b2 : List ByteArray} : arcAll4 most p t1 t2 b1 b2 = (t1.length : Int) + (t2.length : Int) + (b1.length : Int) + (b2.length : Int) := by unfold arcAll4; omega

set_option maxHeartbeats 4000000 in
set_option maxRecDepth 100000 in
theorem arc_fromF0 {b : Nat} {lt1 : Nat} {lt2 : Nat} {lb1 : Nat} {lb2 : Nat} {n : Nat} {most : Int} {p : Int} {t1 : List ByteArray} {t2 : List ByteArray} {b1 : List ByteArray} {b2 : List ByteArray}  (hb : n ≤ 1000000000) (h0 : (t1.length : Int) > 0 ∧ ((t1.length : Int) > p ∨ (t2.length : Int) = 0)) : Tri Try.prog 44 #[pV b 0, bV false] (arcL b lt1 lt2 lb1 lb2 most p t1 t2 b1 b2 n) (Same (arcL b lt1 lt2 lb1 lb2 most p t1 t2 b1 b2 n) (iV 0)) := by
  refine Tri.enter (args := [pV b 0, bV false]) Try.func44 rfl rfl rfl (fun B wz => ?_)
  refine Cd.seq ?_
  refine Cd.region rfl ?_
  refine Sq.vals [0] (rest := []) [iV 0] (fun w => by kernel_rfl) ?_
  refine Sq.done ?_
  refine Ex'.next ?_
  refine Cd.seq ?_
  refine Cd.region rfl ?_
  refine Sq.vals [0, 1, 2, 3] (rest := [4, 5, 6]) [pV b 0, pV b 0, pV b 2, pV b 2] (fun w => by kernel_rfl) ?_
  refine Sq.same [0] (l := [arcB b lt1 lt2 lb1 lb2 most p]) (o_load (i := 2) (v := pV lt1 0) (by kernel_rfl) (by kernel_rfl) (by kernel_rfl)) (by kernel_rfl) rfl (by kernel_rfl) rfl ?_
  refine Sq.same [1] (l := [llR lt1 t1 n]) (o_call (by kernel_rfl) Try.call26 (t_Len (ks := t1) (n := n))) (by kernel_rfl) rfl (by kernel_rfl) rfl ?_
  refine Sq.vals [6] (rest := []) [iV (t1.length : Int)] (fun w => by kernel_rfl) ?_
  refine Sq.done ?_
  refine Ex'.next ?_
  refine Cd.seq ?_
  refine Cd.seq ?_
  refine Cd.region rfl ?_
  refine Sq.vals [0, 1, 2] (rest := [3, 4, 5, 6, 7, 8, 9, 10, 11, 12, 13, 14, 15, 16, 17, 18, 19, 20, 21, 22, 23, 24, 25, 26, 27, 28, 29]) [iV (t1.length : Int), bV (decide ((t1.length : Int) > 0)), bV (decide ((t1.length : Int) > 0))] (fun w => by kernel_rfl) ?_
  refine Sq.case 14 (p := (t1.length : Int) > 0) rfl (fun h1 => ?_) (fun h1 => ?_)
  ·
    refine Sq.vals [3, 4, 5, 6] (rest := [7, 8, 9, 10, 11, 12, 13, 14, 15, 16, 17, 18, 19, 20, 21, 22, 23, 24, 25, 26, 27, 28, 29]) [iV (t1.length : Int), pV b 0, pV b 0, pV b 1] (fun w => by kernel_rfl) ?_
    refine Sq.same [0] (l := [arcB b lt1 lt2 lb1 lb2 most p]) (o_load (i := 1) (v := iV p) (by kernel_rfl) (by kernel_rfl) (by kernel_rfl)) (by kernel_rfl) rfl (by kernel_rfl) rfl ?_
    refine Sq.vals [8, 9] (rest := [10, 11, 12, 13, 14, 15, 16, 17, 18, 19, 20, 21, 22, 23, 24, 25, 26, 27, 28, 29]) [bV (decide ((t1.length : Int) > p)), bV (decide ((t1.length : Int) > p))] (fun w => by kernel_rfl) ?_
    refine Sq.case 21 (p := (t1.length : Int) > p) rfl (fun h2 => ?_) (fun h2 => ?_)
    ·
      refine Sq.vals [10, 11, 12, 13, 14, 15, 16, 17, 18, 19, 20, 21, 22, 23, 24, 25, 26, 27, 28, 29] (rest := []) [undef, undef, undef, undef, undef, undef, undef, undef, undef, bV true, bV true, undef, undef, undef, undef, undef, undef, undef, bV true, bV true] (fun w => by kernel_rfl) ?_
      refine Sq.done ?_
      refine Ex'.next ?_
      refine Cd.condT (by kernel_rfl) ?_
      refine Cd.seq ?_
      refine Cd.region rfl ?_
      refine Sq.vals [0] (rest := []) [iV 0] (fun w => by kernel_rfl) ?_
      refine Sq.done ?_
      refine Ex'.next ?_
      refine Cd.ret ?_
      refine Ex'.thenRet ?_
      refine Ex'.ret Try.results44 (RVs.tmp (v := iV 0) (by kernel_rfl) (RVs.nil)) (fun w hw => ?_)
      exact ⟨_, ⟨rfl, rfl⟩, hw.pickB [0, 1, 2, 3, 4] (by kernel_rfl) (by kernel_rfl) (by kernel_rfl)⟩
    ·
      refine Sq.vals [10, 11, 12, 13, 14, 15, 16, 17, 18, 19, 20, 21, 22, 23, 24] (rest := [25, 26, 27, 28, 29]) [bV false, bV false, undef, undef, undef, undef, undef, undef, bV false, bV false, bV false, pV b 0, pV b 0, pV b 2, pV b 3] (fun w => by kernel_rfl) ?_
      refine Sq.same [0] (l := [arcB b lt1 lt2 lb1 lb2 most p]) (o_load (i := 3) (v := pV lt2 0) (by kernel_rfl) (by kernel_rfl) (by kernel_rfl)) (by kernel_rfl) rfl (by kernel_rfl) rfl ?_
      refine Sq.same [2] (l := [llR lt2 t2 n]) (o_call (by kernel_rfl) Try.call26 (t_Len (ks := t2) (n := n))) (by kernel_rfl) rfl (by kernel_rfl) rfl ?_
      refine Sq.v (r := bV (decide ((t2.length : Int) = 0))) (o_eqI (k := .i64) (a := (t2.length : Int)) (b := 0) (by kernel_rfl) (by kernel_rfl)) rfl (by kernel_rfl) ?_
      refine Sq.vals [28, 29] (rest := []) [bV (decide ((t2.length : Int) = 0)), bV (decide ((t2.length : Int) = 0))] (fun w => by kernel_rfl) ?_
      refine Sq.done ?_
      refine Ex'.next ?_
      refine Cd.case (p := (t2.length : Int) = 0) (by kernel_rfl) (fun h3 => ?_) (fun h3 => ?_)
      ·
        refine Cd.seq ?_
        refine Cd.region rfl ?_
        refine Sq.vals [0] (rest := []) [iV 0] (fun w => by kernel_rfl) ?_
        refine Sq.done ?_
        refine Ex'.next ?_
        refine Cd.ret ?_
        refine Ex'.thenRet ?_
        refine Ex'.ret Try.results44 (RVs.tmp (v := iV 0) (by kernel_rfl) (RVs.nil)) (fun w hw => ?_)
        exact ⟨_, ⟨rfl, rfl⟩, hw.pickB [0, 1, 2, 3, 4] (by kernel_rfl) (by kernel_rfl) (by kernel_rfl)⟩
      ·
        refine Cd.skip ?_
        refine Ex'.next ?_
        refine Cd.seq ?_
        refine Cd.region rfl ?_
        refine Sq.vals [0] (rest := []) [iV 1] (fun w => by kernel_rfl) ?_
        refine Sq.done ?_
        refine Ex'.next ?_
        refine Cd.ret ?_
        refine Ex'.ret Try.results44 (RVs.tmp (v := iV 1) (by kernel_rfl) (RVs.nil)) (fun w hw => ?_)
        exfalso; omega
  ·
    refine Sq.vals [3, 4, 5, 6, 7, 8, 9, 10, 11, 12, 13, 14, 15, 16, 17, 18, 19, 20, 21, 22, 23, 24, 25, 26, 27, 28, 29] (rest := []) [undef, undef, undef, undef, undef, undef, undef, undef, undef, undef, undef, undef, undef, undef, undef, undef, undef, undef, undef, undef, undef, undef, undef, undef, undef, undef, bV false] (fun w => by kernel_rfl) ?_
    refine Sq.done ?_
    refine Ex'.next ?_
    refine Cd.condF (by kernel_rfl) ?_
    refine Cd.skip ?_
    refine Ex'.next ?_
    refine Cd.seq ?_
    refine Cd.region rfl ?_
    refine Sq.vals [0] (rest := []) [iV 1] (fun w => by kernel_rfl) ?_
    refine Sq.done ?_
    refine Ex'.next ?_
    refine Cd.ret ?_
    refine Ex'.ret Try.results44 (RVs.tmp (v := iV 1) (by kernel_rfl) (RVs.nil)) (fun w hw => ?_)
    exfalso; omega

set_option maxHeartbeats 4000000 in
set_option maxRecDepth 100000 in
theorem arc_fromF1 {b : Nat} {lt1 : Nat} {lt2 : Nat} {lb1 : Nat} {lb2 : Nat} {n : Nat} {most : Int} {p : Int} {t1 : List ByteArray} {t2 : List ByteArray} {b1 : List ByteArray} {b2 : List ByteArray}  (hb : n ≤ 1000000000) (h0 : ¬ ((t1.length : Int) > 0 ∧ ((t1.length : Int) > p ∨ (t2.length : Int) = 0))) : Tri Try.prog 44 #[pV b 0, bV false] (arcL b lt1 lt2 lb1 lb2 most p t1 t2 b1 b2 n) (Same (arcL b lt1 lt2 lb1 lb2 most p t1 t2 b1 b2 n) (iV 1)) := by
  refine Tri.enter (args := [pV b 0, bV false]) Try.func44 rfl rfl rfl (fun B wz => ?_)
  refine Cd.seq ?_
  refine Cd.region rfl ?_
  refine Sq.vals [0] (rest := []) [iV 0] (fun w => by kernel_rfl) ?_
  refine Sq.done ?_
  refine Ex'.next ?_
  refine Cd.seq ?_
  refine Cd.region rfl ?_
  refine Sq.vals [0, 1, 2, 3] (rest := [4, 5, 6]) [pV b 0, pV b 0, pV b 2, pV b 2] (fun w => by kernel_rfl) ?_
  refine Sq.same [0] (l := [arcB b lt1 lt2 lb1 lb2 most p]) (o_load (i := 2) (v := pV lt1 0) (by kernel_rfl) (by kernel_rfl) (by kernel_rfl)) (by kernel_rfl) rfl (by kernel_rfl) rfl ?_
  refine Sq.same [1] (l := [llR lt1 t1 n]) (o_call (by kernel_rfl) Try.call26 (t_Len (ks := t1) (n := n))) (by kernel_rfl) rfl (by kernel_rfl) rfl ?_
  refine Sq.vals [6] (rest := []) [iV (t1.length : Int)] (fun w => by kernel_rfl) ?_
  refine Sq.done ?_
  refine Ex'.next ?_
  refine Cd.seq ?_
  refine Cd.seq ?_
  refine Cd.region rfl ?_
  refine Sq.vals [0, 1, 2] (rest := [3, 4, 5, 6, 7, 8, 9, 10, 11, 12, 13, 14, 15, 16, 17, 18, 19, 20, 21, 22, 23, 24, 25, 26, 27, 28, 29]) [iV (t1.length : Int), bV (decide ((t1.length : Int) > 0)), bV (decide ((t1.length : Int) > 0))] (fun w => by kernel_rfl) ?_
  refine Sq.case 14 (p := (t1.length : Int) > 0) rfl (fun h1 => ?_) (fun h1 => ?_)
  ·
    refine Sq.vals [3, 4, 5, 6] (rest := [7, 8, 9, 10, 11, 12, 13, 14, 15, 16, 17, 18, 19, 20, 21, 22, 23, 24, 25, 26, 27, 28, 29]) [iV (t1.length : Int), pV b 0, pV b 0, pV b 1] (fun w => by kernel_rfl) ?_
    refine Sq.same [0] (l := [arcB b lt1 lt2 lb1 lb2 most p]) (o_load (i := 1) (v := iV p) (by kernel_rfl) (by kernel_rfl) (by kernel_rfl)) (by kernel_rfl) rfl (by kernel_rfl) rfl ?_
    refine Sq.vals [8, 9] (rest := [10, 11, 12, 13, 14, 15, 16, 17, 18, 19, 20, 21, 22, 23, 24, 25, 26, 27, 28, 29]) [bV (decide ((t1.length : Int) > p)), bV (decide ((t1.length : Int) > p))] (fun w => by kernel_rfl) ?_
    refine Sq.case 21 (p := (t1.length : Int) > p) rfl (fun h2 => ?_) (fun h2 => ?_)
    ·
      refine Sq.vals [10, 11, 12, 13, 14, 15, 16, 17, 18, 19, 20, 21, 22, 23, 24, 25, 26, 27, 28, 29] (rest := []) [undef, undef, undef, undef, undef, undef, undef, undef, undef, bV true, bV true, undef, undef, undef, undef, undef, undef, undef, bV true, bV true] (fun w => by kernel_rfl) ?_
      refine Sq.done ?_
      refine Ex'.next ?_
      refine Cd.condT (by kernel_rfl) ?_
      refine Cd.seq ?_
      refine Cd.region rfl ?_
      refine Sq.vals [0] (rest := []) [iV 0] (fun w => by kernel_rfl) ?_
      refine Sq.done ?_
      refine Ex'.next ?_
      refine Cd.ret ?_
      refine Ex'.thenRet ?_
      refine Ex'.ret Try.results44 (RVs.tmp (v := iV 0) (by kernel_rfl) (RVs.nil)) (fun w hw => ?_)
      exfalso; omega
    ·
      refine Sq.vals [10, 11, 12, 13, 14, 15, 16, 17, 18, 19, 20, 21, 22, 23, 24] (rest := [25, 26, 27, 28, 29]) [bV false, bV false, undef, undef, undef, undef, undef, undef, bV false, bV false, bV false, pV b 0, pV b 0, pV b 2, pV b 3] (fun w => by kernel_rfl) ?_
      refine Sq.same [0] (l := [arcB b lt1 lt2 lb1 lb2 most p]) (o_load (i := 3) (v := pV lt2 0) (by kernel_rfl) (by kernel_rfl) (by kernel_rfl)) (by kernel_rfl) rfl (by kernel_rfl) rfl ?_
      refine Sq.same [2] (l := [llR lt2 t2 n]) (o_call (by kernel_rfl) Try.call26 (t_Len (ks := t2) (n := n))) (by kernel_rfl) rfl (by kernel_rfl) rfl ?_
      refine Sq.v (r := bV (decide ((t2.length : Int) = 0))) (o_eqI (k := .i64) (a := (t2.length : Int)) (b := 0) (by kernel_rfl) (by kernel_rfl)) rfl (by kernel_rfl) ?_
      refine Sq.vals [28, 29] (rest := []) [bV (decide ((t2.length : Int) = 0)), bV (decide ((t2.length : Int) = 0))] (fun w => by kernel_rfl) ?_
      refine Sq.done ?_
      refine Ex'.next ?_
      refine Cd.case (p := (t2.length : Int) = 0) (by kernel_rfl) (fun h3 => ?_) (fun h3 => ?_)
      ·
        refine Cd.seq ?_
        refine Cd.region rfl ?_
        refine Sq.vals [0] (rest := []) [iV 0] (fun w => by kernel_rfl) ?_
        refine Sq.done ?_
        refine Ex'.next ?_
        refine Cd.ret ?_
        refine Ex'.thenRet ?_
        refine Ex'.ret Try.results44 (RVs.tmp (v := iV 0) (by kernel_rfl) (RVs.nil)) (fun w hw => ?_)
        exfalso; omega
      ·
        refine Cd.skip ?_
        refine Ex'.next ?_
        refine Cd.seq ?_
        refine Cd.region rfl ?_
        refine Sq.vals [0] (rest := []) [iV 1] (fun w => by kernel_rfl) ?_
        refine Sq.done ?_
        refine Ex'.next ?_
        refine Cd.ret ?_
        refine Ex'.ret Try.results44 (RVs.tmp (v := iV 1) (by kernel_rfl) (RVs.nil)) (fun w hw => ?_)
        exact ⟨_, ⟨rfl, rfl⟩, hw.pickB [0, 1, 2, 3, 4] (by kernel_rfl) (by kernel_rfl) (by kernel_rfl)⟩
  ·
    refine Sq.vals [3, 4, 5, 6, 7, 8, 9, 10, 11, 12, 13, 14, 15, 16, 17, 18, 19, 20, 21, 22, 23, 24, 25, 26, 27, 28, 29] (rest := []) [undef, undef, undef, undef, undef, undef, undef, undef, undef, undef, undef, undef, undef, undef, undef, undef, undef, undef, undef, undef, undef, undef, undef, undef, undef, undef, bV false] (fun w => by kernel_rfl) ?_
    refine Sq.done ?_
    refine Ex'.next ?_
    refine Cd.condF (by kernel_rfl) ?_
    refine Cd.skip ?_
    refine Ex'.next ?_
    refine Cd.seq ?_
    refine Cd.region rfl ?_
    refine Sq.vals [0] (rest := []) [iV 1] (fun w => by kernel_rfl) ?_
    refine Sq.done ?_
    refine Ex'.next ?_
    refine Cd.ret ?_
    refine Ex'.ret Try.results44 (RVs.tmp (v := iV 1) (by kernel_rfl) (RVs.nil)) (fun w hw => ?_)
    exact ⟨_, ⟨rfl, rfl⟩, hw.pickB [0, 1, 2, 3, 4] (by kernel_rfl) (by kernel_rfl) (by kernel_rfl)⟩

set_option maxHeartbeats 4000000 in
set_option maxRecDepth 100000 in
theorem arc_fromT0 {b : Nat} {lt1 : Nat} {lt2 : Nat} {lb1 : Nat} {lb2 : Nat} {n : Nat} {most : Int} {p : Int} {t1 : List ByteArray} {t2 : List ByteArray} {b1 : List ByteArray} {b2 : List ByteArray}  (hb : n ≤ 1000000000) (h0 : (t1.length : Int) > 0 ∧ ((t1.length : Int) > p ∨ (t1.length : Int) = p ∨ (t2.length : Int) = 0)) : Tri Try.prog 44 #[pV b 0, bV true] (arcL b lt1 lt2 lb1 lb2 most p t1 t2 b1 b2 n) (Same (arcL b lt1 lt2 lb1 lb2 most p t1 t2 b1 b2 n) (iV 0)) := by
  refine Tri.enter (args := [pV b 0, bV true]) Try.func44 rfl rfl rfl (fun B wz => ?_)
  refine Cd.seq ?_
  refine Cd.region rfl ?_
  refine Sq.vals [0] (rest := []) [iV 0] (fun w => by kernel_rfl) ?_
  refine Sq.done ?_
  refine Ex'.next ?_
  refine Cd.seq ?_
  refine Cd.region rfl ?_
  refine Sq.vals [0, 1, 2, 3] (rest := [4, 5, 6]) [pV b 0, pV b 0, pV b 2, pV b 2] (fun w => by kernel_rfl) ?_
  refine Sq.same [0] (l := [arcB b lt1 lt2 lb1 lb2 most p]) (o_load (i := 2) (v := pV lt1 0) (by kernel_rfl) (by kernel_rfl) (by kernel_rfl)) (by kernel_rfl) rfl (by kernel_rfl) rfl ?_
  refine Sq.same [1] (l := [llR lt1 t1 n]) (o_call (by kernel_rfl) Try.call26 (t_Len (ks := t1) (n := n))) (by kernel_rfl) rfl (by kernel_rfl) rfl ?_
  refine Sq.vals [6] (rest := []) [iV (t1.length : Int)] (fun w => by kernel_rfl) ?_
  refine Sq.done ?_
  refine Ex'.next ?_
  refine Cd.seq ?_
  refine Cd.seq ?_
  refine Cd.region rfl ?_
  refine Sq.vals [0, 1, 2] (rest := [3, 4, 5, 6, 7, 8, 9, 10, 11, 12, 13, 14, 15, 16, 17, 18, 19, 20, 21, 22, 23, 24, 25, 26, 27, 28, 29]) [iV (t1.length : Int), bV (decide ((t1.length : Int) > 0)), bV (decide ((t1.length : Int) > 0))] (fun w => by kernel_rfl) ?_
  refine Sq.case 14 (p := (t1.length : Int) > 0) rfl (fun h1 => ?_) (fun h1 => ?_)
  ·
    refine Sq.vals [3, 4, 5, 6] (rest := [7, 8, 9, 10, 11, 12, 13, 14, 15, 16, 17, 18, 19, 20, 21, 22, 23, 24, 25, 26, 27, 28, 29]) [iV (t1.length : Int), pV b 0, pV b 0, pV b 1] (fun w => by kernel_rfl) ?_
    refine Sq.same [0] (l := [arcB b lt1 lt2 lb1 lb2 most p]) (o_load (i := 1) (v := iV p) (by kernel_rfl) (by kernel_rfl) (by kernel_rfl)) (by kernel_rfl) rfl (by kernel_rfl) rfl ?_
    refine Sq.vals [8, 9] (rest := [10, 11, 12, 13, 14, 15, 16, 17, 18, 19, 20, 21, 22, 23, 24, 25, 26, 27, 28, 29]) [bV (decide ((t1.length : Int) > p)), bV (decide ((t1.length : Int) > p))] (fun w => by kernel_rfl) ?_
    refine Sq.case 21 (p := (t1.length : Int) > p) rfl (fun h2 => ?_) (fun h2 => ?_)
    ·
      refine Sq.vals [10, 11, 12, 13, 14, 15, 16, 17, 18, 19, 20, 21, 22, 23, 24, 25, 26, 27, 28, 29] (rest := []) [undef, undef, undef, undef, undef, undef, undef, undef, undef, bV true, bV true, undef, undef, undef, undef, undef, undef, undef, bV true, bV true] (fun w => by kernel_rfl) ?_
      refine Sq.done ?_
      refine Ex'.next ?_
      refine Cd.condT (by kernel_rfl) ?_
      refine Cd.seq ?_
      refine Cd.region rfl ?_
      refine Sq.vals [0] (rest := []) [iV 0] (fun w => by kernel_rfl) ?_
      refine Sq.done ?_
      refine Ex'.next ?_
      refine Cd.ret ?_
      refine Ex'.thenRet ?_
      refine Ex'.ret Try.results44 (RVs.tmp (v := iV 0) (by kernel_rfl) (RVs.nil)) (fun w hw => ?_)
      exact ⟨_, ⟨rfl, rfl⟩, hw.pickB [0, 1, 2, 3, 4] (by kernel_rfl) (by kernel_rfl) (by kernel_rfl)⟩
    ·
      refine Sq.vals [10, 11, 12, 13, 14, 15] (rest := [16, 17, 18, 19, 20, 21, 22, 23, 24, 25, 26, 27, 28, 29]) [bV true, bV true, iV (t1.length : Int), pV b 0, pV b 0, pV b 1] (fun w => by kernel_rfl) ?_
      refine Sq.same [0] (l := [arcB b lt1 lt2 lb1 lb2 most p]) (o_load (i := 1) (v := iV p) (by kernel_rfl) (by kernel_rfl) (by kernel_rfl)) (by kernel_rfl) rfl (by kernel_rfl) rfl ?_
      refine Sq.v (r := bV (decide ((t1.length : Int) = p))) (o_eqI (k := .i64) (a := (t1.length : Int)) (b := p) (by kernel_rfl) (by kernel_rfl)) rfl (by kernel_rfl) ?_
      refine Sq.vals [18, 19, 20] (rest := [21, 22, 23, 24, 25, 26, 27, 28, 29]) [bV (decide ((t1.length : Int) = p)), bV (decide ((t1.length : Int) = p)), bV (decide ((t1.length : Int) = p))] (fun w => by kernel_rfl) ?_
      refine Sq.case 32 (p := (t1.length : Int) = p) rfl (fun h3 => ?_) (fun h3 => ?_)
      ·
        refine Sq.vals [21, 22, 23, 24, 25, 26, 27, 28, 29] (rest := []) [undef, undef, undef, undef, undef, undef, undef, bV true, bV true] (fun w => by kernel_rfl) ?_
        refine Sq.done ?_
        refine Ex'.next ?_
        refine Cd.condT (by kernel_rfl) ?_
        refine Cd.seq ?_
        refine Cd.region rfl ?_
        refine Sq.vals [0] (rest := []) [iV 0] (fun w => by kernel_rfl) ?_
        refine Sq.done ?_
        refine Ex'.next ?_
        refine Cd.ret ?_
        refine Ex'.thenRet ?_
        refine Ex'.ret Try.results44 (RVs.tmp (v := iV 0) (by kernel_rfl) (RVs.nil)) (fun w hw => ?_)
        exact ⟨_, ⟨rfl, rfl⟩, hw.pickB [0, 1, 2, 3, 4] (by kernel_rfl) (by kernel_rfl) (by kernel_rfl)⟩
      ·
        refine Sq.vals [21, 22, 23, 24] (rest := [25, 26, 27, 28, 29]) [pV b 0, pV b 0, pV b 2, pV b 3] (fun w => by kernel_rfl) ?_
        refine Sq.same [0] (l := [arcB b lt1 lt2 lb1 lb2 most p]) (o_load (i := 3) (v := pV lt2 0) (by kernel_rfl) (by kernel_rfl) (by kernel_rfl)) (by kernel_rfl) rfl (by kernel_rfl) rfl ?_
        refine Sq.same [2] (l := [llR lt2 t2 n]) (o_call (by kernel_rfl) Try.call26 (t_Len (ks := t2) (n := n))) (by kernel_rfl) rfl (by kernel_rfl) rfl ?_
        refine Sq.v (r := bV (decide ((t2.length : Int) = 0))) (o_eqI (k := .i64) (a := (t2.length : Int)) (b := 0) (by kernel_rfl) (by kernel_rfl)) rfl (by kernel_rfl) ?_
        refine Sq.vals [28, 29] (rest := []) [bV (decide ((t2.length : Int) = 0)), bV (decide ((t2.length : Int) = 0))] (fun w => by kernel_rfl) ?_
        refine Sq.done ?_
        refine Ex'.next ?_
        refine Cd.case (p := (t2.length : Int) = 0) (by kernel_rfl) (fun h4 => ?_) (fun h4 => ?_)
        ·
          refine Cd.seq ?_
          refine Cd.region rfl ?_
          refine Sq.vals [0] (rest := []) [iV 0] (fun w => by kernel_rfl) ?_
          refine Sq.done ?_
          refine Ex'.next ?_
          refine Cd.ret ?_
          refine Ex'.thenRet ?_
          refine Ex'.ret Try.results44 (RVs.tmp (v := iV 0) (by kernel_rfl) (RVs.nil)) (fun w hw => ?_)
          exact ⟨_, ⟨rfl, rfl⟩, hw.pickB [0, 1, 2, 3, 4] (by kernel_rfl) (by kernel_rfl) (by kernel_rfl)⟩
        ·
          refine Cd.skip ?_
          refine Ex'.next ?_
          refine Cd.seq ?_
          refine Cd.region rfl ?_
          refine Sq.vals [0] (rest := []) [iV 1] (fun w => by kernel_rfl) ?_
          refine Sq.done ?_
          refine Ex'.next ?_
          refine Cd.ret ?_
          refine Ex'.ret Try.results44 (RVs.tmp (v := iV 1) (by kernel_rfl) (RVs.nil)) (fun w hw => ?_)
          exfalso; omega
  ·
    refine Sq.vals [3, 4, 5, 6, 7, 8, 9, 10, 11, 12, 13, 14, 15, 16, 17, 18, 19, 20, 21, 22, 23, 24, 25, 26, 27, 28, 29] (rest := []) [undef, undef, undef, undef, undef, undef, undef, undef, undef, undef, undef, undef, undef, undef, undef, undef, undef, undef, undef, undef, undef, undef, undef, undef, undef, undef, bV false] (fun w => by kernel_rfl) ?_
    refine Sq.done ?_
    refine Ex'.next ?_
    refine Cd.condF (by kernel_rfl) ?_
    refine Cd.skip ?_
    refine Ex'.next ?_
    refine Cd.seq ?_
    refine Cd.region rfl ?_
    refine Sq.vals [0] (rest := []) [iV 1] (fun w => by kernel_rfl) ?_
    refine Sq.done ?_
    refine Ex'.next ?_
    refine Cd.ret ?_
    refine Ex'.ret Try.results44 (RVs.tmp (v := iV 1) (by kernel_rfl) (RVs.nil)) (fun w hw => ?_)
    exfalso; omega

set_option maxHeartbeats 4000000 in
set_option maxRecDepth 100000 in
theorem arc_fromT1 {b : Nat} {lt1 : Nat} {lt2 : Nat} {lb1 : Nat} {lb2 : Nat} {n : Nat} {most : Int} {p : Int} {t1 : List ByteArray} {t2 : List ByteArray} {b1 : List ByteArray} {b2 : List ByteArray}  (hb : n ≤ 1000000000) (h0 : ¬ ((t1.length : Int) > 0 ∧ ((t1.length : Int) > p ∨ (t1.length : Int) = p ∨ (t2.length : Int) = 0))) : Tri Try.prog 44 #[pV b 0, bV true] (arcL b lt1 lt2 lb1 lb2 most p t1 t2 b1 b2 n) (Same (arcL b lt1 lt2 lb1 lb2 most p t1 t2 b1 b2 n) (iV 1)) := by
  refine Tri.enter (args := [pV b 0, bV true]) Try.func44 rfl rfl rfl (fun B wz => ?_)
  refine Cd.seq ?_
  refine Cd.region rfl ?_
  refine Sq.vals [0] (rest := []) [iV 0] (fun w => by kernel_rfl) ?_
  refine Sq.done ?_
  refine Ex'.next ?_
  refine Cd.seq ?_
  refine Cd.region rfl ?_
  refine Sq.vals [0, 1, 2, 3] (rest := [4, 5, 6]) [pV b 0, pV b 0, pV b 2, pV b 2] (fun w => by kernel_rfl) ?_
  refine Sq.same [0] (l := [arcB b lt1 lt2 lb1 lb2 most p]) (o_load (i := 2) (v := pV lt1 0) (by kernel_rfl) (by kernel_rfl) (by kernel_rfl)) (by kernel_rfl) rfl (by kernel_rfl) rfl ?_
  refine Sq.same [1] (l := [llR lt1 t1 n]) (o_call (by kernel_rfl) Try.call26 (t_Len (ks := t1) (n := n))) (by kernel_rfl) rfl (by kernel_rfl) rfl ?_
  refine Sq.vals [6] (rest := []) [iV (t1.length : Int)] (fun w => by kernel_rfl) ?_
  refine Sq.done ?_
  refine Ex'.next ?_
  refine Cd.seq ?_
  refine Cd.seq ?_
  refine Cd.region rfl ?_
  refine Sq.vals [0, 1, 2] (rest := [3, 4, 5, 6, 7, 8, 9, 10, 11, 12, 13, 14, 15, 16, 17, 18, 19, 20, 21, 22, 23, 24, 25, 26, 27, 28, 29]) [iV (t1.length : Int), bV (decide ((t1.length : Int) > 0)), bV (decide ((t1.length : Int) > 0))] (fun w => by kernel_rfl) ?_
  refine Sq.case 14 (p := (t1.length : Int) > 0) rfl (fun h1 => ?_) (fun h1 => ?_)
  ·
    refine Sq.vals [3, 4, 5, 6] (rest := [7, 8, 9, 10, 11, 12, 13, 14, 15, 16, 17, 18, 19, 20, 21, 22, 23, 24, 25, 26, 27, 28, 29]) [iV (t1.length : Int), pV b 0, pV b 0, pV b 1] (fun w => by kernel_rfl) ?_
    refine Sq.same [0] (l := [arcB b lt1 lt2 lb1 lb2 most p]) (o_load (i := 1) (v := iV p) (by kernel_rfl) (by kernel_rfl) (by kernel_rfl)) (by kernel_rfl) rfl (by kernel_rfl) rfl ?_
    refine Sq.vals [8, 9] (rest := [10, 11, 12, 13, 14, 15, 16, 17, 18, 19, 20, 21, 22, 23, 24, 25, 26, 27, 28, 29]) [bV (decide ((t1.length : Int) > p)), bV (decide ((t1.length : Int) > p))] (fun w => by kernel_rfl) ?_
    refine Sq.case 21 (p := (t1.length : Int) > p) rfl (fun h2 => ?_) (fun h2 => ?_)
    ·
      refine Sq.vals [10, 11, 12, 13, 14, 15, 16, 17, 18, 19, 20, 21, 22, 23, 24, 25, 26, 27, 28, 29] (rest := []) [undef, undef, undef, undef, undef, undef, undef, undef, undef, bV true, bV true, undef, undef, undef, undef, undef, undef, undef, bV true, bV true] (fun w => by kernel_rfl) ?_
      refine Sq.done ?_
      refine Ex'.next ?_
      refine Cd.condT (by kernel_rfl) ?_
      refine Cd.seq ?_
      refine Cd.region rfl ?_
      refine Sq.vals [0] (rest := []) [iV 0] (fun w => by kernel_rfl) ?_
      refine Sq.done ?_
      refine Ex'.next ?_
      refine Cd.ret ?_
      refine Ex'.thenRet ?_
      refine Ex'.ret Try.results44 (RVs.tmp (v := iV 0) (by kernel_rfl) (RVs.nil)) (fun w hw => ?_)
      exfalso; omega
    ·
      refine Sq.vals [10, 11, 12, 13, 14, 15] (rest := [16, 17, 18, 19, 20, 21, 22, 23, 24, 25, 26, 27, 28, 29]) [bV true, bV true, iV (t1.length : Int), pV b 0, pV b 0, pV b 1] (fun w => by kernel_rfl) ?_
      refine Sq.same [0] (l := [arcB b lt1 lt2 lb1 lb2 most p]) (o_load (i := 1) (v := iV p) (by kernel_rfl) (by kernel_rfl) (by kernel_rfl)) (by kernel_rfl) rfl (by kernel_rfl) rfl ?_
      refine Sq.v (r := bV (decide ((t1.length : Int) = p))) (o_eqI (k := .i64) (a := (t1.length : Int)) (b := p) (by kernel_rfl) (by kernel_rfl)) rfl (by kernel_rfl) ?_
      refine Sq.vals [18, 19, 20] (rest := [21, 22, 23, 24, 25, 26, 27, 28, 29]) [bV (decide ((t1.length : Int) = p)), bV (decide ((t1.length : Int) = p)), bV (decide ((t1.length : Int) = p))] (fun w => by kernel_rfl) ?_
      refine Sq.case 32 (p := (t1.length : Int) = p) rfl (fun h3 => ?_) (fun h3 => ?_)
      ·
        refine Sq.vals [21, 22, 23, 24, 25, 26, 27, 28, 29] (rest := []) [undef, undef, undef, undef, undef, undef, undef, bV true, bV true] (fun w => by kernel_rfl) ?_
        refine Sq.done ?_
        refine Ex'.next ?_
        refine Cd.condT (by kernel_rfl) ?_
        refine Cd.seq ?_
        refine Cd.region rfl ?_
        refine Sq.vals [0] (rest := []) [iV 0] (fun w => by kernel_rfl) ?_
        refine Sq.done ?_
        refine Ex'.next ?_
        refine Cd.ret ?_
        refine Ex'.thenRet ?_
        refine Ex'.ret Try.results44 (RVs.tmp (v := iV 0) (by kernel_rfl) (RVs.nil)) (fun w hw => ?_)
        exfalso; omega
      ·
        refine Sq.vals [21, 22, 23, 24] (rest := [25, 26, 27, 28, 29]) [pV b 0, pV b 0, pV b 2, pV b 3] (fun w => by kernel_rfl) ?_
        refine Sq.same [0] (l := [arcB b lt1 lt2 lb1 lb2 most p]) (o_load (i := 3) (v := pV lt2 0) (by kernel_rfl) (by kernel_rfl) (by kernel_rfl)) (by kernel_rfl) rfl (by kernel_rfl) rfl ?_
        refine Sq.same [2] (l := [llR lt2 t2 n]) (o_call (by kernel_rfl) Try.call26 (t_Len (ks := t2) (n := n))) (by kernel_rfl) rfl (by kernel_rfl) rfl ?_
        refine Sq.v (r := bV (decide ((t2.length : Int) = 0))) (o_eqI (k := .i64) (a := (t2.length : Int)) (b := 0) (by kernel_rfl) (by kernel_rfl)) rfl (by kernel_rfl) ?_
        refine Sq.vals [28, 29] (rest := []) [bV (decide ((t2.length : Int) = 0)), bV (decide ((t2.length : Int) = 0))] (fun w => by kernel_rfl) ?_
        refine Sq.done ?_
        refine Ex'.next ?_
        refine Cd.case (p := (t2.length : Int) = 0) (by kernel_rfl) (fun h4 => ?_) (fun h4 => ?_)
        ·
          refine Cd.seq ?_
          refine Cd.region rfl ?_
          refine Sq.vals [0] (rest := []) [iV 0] (fun w => by kernel_rfl) ?_
          refine Sq.done ?_
          refine Ex'.next ?_
          refine Cd.ret ?_
          refine Ex'.thenRet ?_
          refine Ex'.ret Try.results44 (RVs.tmp (v := iV 0) (by kernel_rfl) (RVs.nil)) (fun w hw => ?_)
          exfalso; omega
        ·
          refine Cd.skip ?_
          refine Ex'.next ?_
          refine Cd.seq ?_
          refine Cd.region rfl ?_
          refine Sq.vals [0] (rest := []) [iV 1] (fun w => by kernel_rfl) ?_
          refine Sq.done ?_
          refine Ex'.next ?_
          refine Cd.ret ?_
          refine Ex'.ret Try.results44 (RVs.tmp (v := iV 1) (by kernel_rfl) (RVs.nil)) (fun w hw => ?_)
          exact ⟨_, ⟨rfl, rfl⟩, hw.pickB [0, 1, 2, 3, 4] (by kernel_rfl) (by kernel_rfl) (by kernel_rfl)⟩
  ·
    refine Sq.vals [3, 4, 5, 6, 7, 8, 9, 10, 11, 12, 13, 14, 15, 16, 17, 18, 19, 20, 21, 22, 23, 24, 25, 26, 27, 28, 29] (rest := []) [undef, undef, undef, undef, undef, undef, undef, undef, undef, undef, undef, undef, undef, undef, undef, undef, undef, undef, undef, undef, undef, undef, undef, undef, undef, undef, bV false] (fun w => by kernel_rfl) ?_
    refine Sq.done ?_
    refine Ex'.next ?_
    refine Cd.condF (by kernel_rfl) ?_
    refine Cd.skip ?_
    refine Ex'.next ?_
    refine Cd.seq ?_
    refine Cd.region rfl ?_
    refine Sq.vals [0] (rest := []) [iV 1] (fun w => by kernel_rfl) ?_
    refine Sq.done ?_
    refine Ex'.next ?_
    refine Cd.ret ?_
    refine Ex'.ret Try.results44 (RVs.tmp (v := iV 1) (by kernel_rfl) (RVs.nil)) (fun w hw => ?_)
    exact ⟨_, ⟨rfl, rfl⟩, hw.pickB [0, 1, 2, 3, 4] (by kernel_rfl) (by kernel_rfl) (by kernel_rfl)⟩

def arcYieldF (most : Int) (p : Int) (t1 : List ByteArray) (t2 : List ByteArray) (b1 : List ByteArray) (b2 : List ByteArray)  : List ByteArray × List ByteArray × List ByteArray × List ByteArray × ByteArray × Bool :=
  if (t1.length : Int) > 0 ∧ ((t1.length : Int) > p ∨ (t2.length : Int) = 0) then if 0 < t1.length then (t1.dropLast, t2, fr b1 (t1.getLast?.getD ⟨#[]⟩), b2, t1.getLast?.getD ⟨#[]⟩, decide (0 < t1.length)) else (t1.dropLast, t2, b1, b2, t1.getLast?.getD ⟨#[]⟩, decide (0 < t1.length)) else if 0 < t2.length then (t1, t2.dropLast, b1, fr b2 (t2.getLast?.getD ⟨#[]⟩), t2.getLast?.getD ⟨#[]⟩, decide (0 < t2.length)) else (t1, t2.dropLast, b1, b2, t2.getLast?.getD ⟨#[]⟩, decide (0 < t2.length))

set_option maxHeartbeats 4000000 in
set_option maxRecDepth 100000 in
theorem arc_yieldF {b : Nat} {lt1 : Nat} {lt2 : Nat} {lb1 : Nat} {lb2 : Nat} {n : Nat} {most : Int} {p : Int} {t1 : List ByteArray} {t2 : List ByteArray} {b1 : List ByteArray} {b2 : List ByteArray}  {n' : Nat} (hb : n ≤ 1000000000) (hn : n + 1 ≤ n') : Tri Try.prog 35 #[pV b 0, bV false] (arcL b lt1 lt2 lb1 lb2 most p t1 t2 b1 b2 n) (Same (arcL b lt1 lt2 lb1 lb2 most p ((arcYieldF most p t1 t2 b1 b2).1) ((arcYieldF most p t1 t2 b1 b2).2.1) ((arcYieldF most p t1 t2 b1 b2).2.2.1) ((arcYieldF most p t1 t2 b1 b2).2.2.2.1) n') (.tuple #[sV ((arcYieldF most p t1 t2 b1 b2).2.2.2.2.1), bV ((arcYieldF most p t1 t2 b1 b2).2.2.2.2.2)])) := by
  refine Tri.enter (args := [pV b 0, bV false]) Try.func35 rfl rfl rfl (fun B wz => ?_)
  refine Cd.seq ?_
  refine Cd.region rfl ?_
  refine Sq.vals [0, 1] (rest := []) [sV ⟨#[]⟩, bV false] (fun w => by kernel_rfl) ?_
  refine Sq.done ?_
  refine Ex'.next ?_
  refine Cd.seq ?_
  refine Cd.region rfl ?_
  refine Sq.vals [0, 1] (rest := [2, 3]) [pV b 0, bV false] (fun w => by kernel_rfl) ?_
  by_cases h1 : (t1.length : Int) > 0 ∧ ((t1.length : Int) > p ∨ (t2.length : Int) = 0)
  ·
    refine Sq.same [0, 1, 2, 3, 4] (l := arcL b lt1 lt2 lb1 lb2 most p t1 t2 b1 b2 n) (o_call (by kernel_rfl) Try.call44 (arc_fromF0 (n := n) (most := most) (p := p) (t1 := t1) (t2 := t2) (b1 := b1) (b2 := b2) (by omega) h1)) (by kernel_rfl) rfl (by kernel_rfl) rfl ?_
    refine Sq.vals [3] (rest := []) [iV 0] (fun w => by kernel_rfl) ?_
    refine Sq.done ?_
    refine Ex'.next ?_
    refine Cd.seq ?_
    refine Cd.region rfl ?_
    refine Sq.vals [0, 1, 2, 3, 4] (rest := [5, 6, 7, 8, 9, 10, 11]) [pV b 0, iV 0, pV b 0, pV b 2, pV b 2] (fun w => by kernel_rfl) ?_
    refine Sq.same [0] (l := [arcB b lt1 lt2 lb1 lb2 most p]) (o_load (i := 2) (v := pV lt1 0) (by kernel_rfl) (by kernel_rfl) (by kernel_rfl)) (by kernel_rfl) rfl (by kernel_rfl) rfl ?_
    refine Sq.same [1] (l := [llR lt1 t1 n]) (o_call (by kernel_rfl) Try.call38 (t_Pop (ks := t1) (n := n) (by omega))) (by kernel_rfl) rfl (by kernel_rfl) rfl ?_
    refine Sq.vals [7, 8, 9, 10, 11] (rest := []) [.tuple #[sV (t1.getLast?.getD ⟨#[]⟩), bV (decide (0 < t1.length))], sV (t1.getLast?.getD ⟨#[]⟩), bV (decide (0 < t1.length)), sV (t1.getLast?.getD ⟨#[]⟩), bV (decide (0 < t1.length))] (fun w => by kernel_rfl) ?_
    refine Sq.done ?_
    refine Ex'.next ?_
    refine Cd.seq ?_
    refine Cd.seq ?_
    refine Cd.region rfl ?_
    refine Sq.vals [0] (rest := []) [bV (decide (0 < t1.length))] (fun w => by kernel_rfl) ?_
    refine Sq.done ?_
    refine Ex'.next ?_
    refine Cd.case (p := 0 < t1.length) (by kernel_rfl) (fun h2 => ?_) (fun h2 => ?_)
    ·
      refine Cd.region rfl ?_
      refine Sq.vals [0, 1, 2, 3, 4, 5] (rest := [6, 7, 8]) [pV b 0, iV 0, iV 2, pV b 0, pV b 2, pV b 4] (fun w => by kernel_rfl) ?_
      refine Sq.same [0] (l := [arcB b lt1 lt2 lb1 lb2 most p]) (o_load (i := 4) (v := pV lb1 0) (by kernel_rfl) (by kernel_rfl) (by kernel_rfl)) (by kernel_rfl) rfl (by kernel_rfl) rfl ?_
      refine Sq.vals [7] (rest := [8]) [sV (t1.getLast?.getD ⟨#[]⟩)] (fun w => by kernel_rfl) ?_
      refine Sq.same [3] (l := [llR lb1 b1 n]) (o_call (by kernel_rfl) Try.call30 (t_Front (ks := b1) (n := n) (t1.getLast?.getD ⟨#[]⟩) (by omega))) (by kernel_rfl) rfl (by kernel_rfl) rfl ?_
      refine Sq.done ?_
      refine Ex'.next ?_
      refine Cd.seq ?_
      refine Cd.region rfl ?_
      refine Sq.vals [0, 1, 2, 3] (rest := []) [sV (t1.getLast?.getD ⟨#[]⟩), bV (decide (0 < t1.length)), sV (t1.getLast?.getD ⟨#[]⟩), bV (decide (0 < t1.length))] (fun w => by kernel_rfl) ?_
      refine Sq.done ?_
      refine Ex'.next ?_
      refine Cd.ret ?_
      refine Ex'.ret Try.results35 (RVs.tmp (v := sV (t1.getLast?.getD ⟨#[]⟩)) (by kernel_rfl) (RVs.tmp (v := bV (decide (0 < t1.length))) (by kernel_rfl) (RVs.nil))) (fun w hw => ?_)
      have e : arcYieldF most p t1 t2 b1 b2 = (t1.dropLast, t2, fr b1 (t1.getLast?.getD ⟨#[]⟩), b2, t1.getLast?.getD ⟨#[]⟩, decide (0 < t1.length)) := by unfold arcYieldF; rw [if_pos h1, if_pos h2]
      rw [e]
      exact ⟨_, ⟨rfl, rfl⟩, ((((hw.conv 1 (R := llR lt1 t1.dropLast n) (R' := llR lt1 t1.dropLast n') (by kernel_rfl) (llR.up (by omega))).conv 2 (R := llR lt2 t2 n) (R' := llR lt2 t2 n') (by kernel_rfl) (llR.up (by omega))).conv 3 (R := llR lb1 (fr b1 (t1.getLast?.getD ⟨#[]⟩)) (n + 1)) (R' := llR lb1 (fr b1 (t1.getLast?.getD ⟨#[]⟩)) n') (by kernel_rfl) (llR.up (by omega))).conv 4 (R := llR lb2 b2 n) (R' := llR lb2 b2 n') (by kernel_rfl) (llR.up (by omega))).pickB [0, 1, 2, 3, 4] (by kernel_rfl) (by kernel_rfl) (by kernel_rfl)⟩
    ·
      refine Cd.skip ?_
      refine Ex'.next ?_
      refine Cd.seq ?_
      refine Cd.region rfl ?_
      refine Sq.vals [0, 1, 2, 3] (rest := []) [sV (t1.getLast?.getD ⟨#[]⟩), bV (decide (0 < t1.length)), sV (t1.getLast?.getD ⟨#[]⟩), bV (decide (0 < t1.length))] (fun w => by kernel_rfl) ?_
      refine Sq.done ?_
      refine Ex'.next ?_
      refine Cd.ret ?_
      refine Ex'.ret Try.results35 (RVs.tmp (v := sV (t1.getLast?.getD ⟨#[]⟩)) (by kernel_rfl) (RVs.tmp (v := bV (decide (0 < t1.length))) (by kernel_rfl) (RVs.nil))) (fun w hw => ?_)
      have e : arcYieldF most p t1 t2 b1 b2 = (t1.dropLast, t2, b1, b2, t1.getLast?.getD ⟨#[]⟩, decide (0 < t1.length)) := by unfold arcYieldF; rw [if_pos h1, if_neg h2]
      rw [e]
      exact ⟨_, ⟨rfl, rfl⟩, ((((hw.conv 1 (R := llR lt1 t1.dropLast n) (R' := llR lt1 t1.dropLast n') (by kernel_rfl) (llR.up (by omega))).conv 2 (R := llR lt2 t2 n) (R' := llR lt2 t2 n') (by kernel_rfl) (llR.up (by omega))).conv 3 (R := llR lb1 b1 n) (R' := llR lb1 b1 n') (by kernel_rfl) (llR.up (by omega))).conv 4 (R := llR lb2 b2 n) (R' := llR lb2 b2 n') (by kernel_rfl) (llR.up (by omega))).pickB [0, 1, 2, 3, 4] (by kernel_rfl) (by kernel_rfl) (by kernel_rfl)⟩
  ·
    refine Sq.same [0, 1, 2, 3, 4] (l := arcL b lt1 lt2 lb1 lb2 most p t1 t2 b1 b2 n) (o_call (by kernel_rfl) Try.call44 (arc_fromF1 (n := n) (most := most) (p := p) (t1 := t1) (t2 := t2) (b1 := b1) (b2 := b2) (by omega) h1)) (by kernel_rfl) rfl (by kernel_rfl) rfl ?_
    refine Sq.vals [3] (rest := []) [iV 1] (fun w => by kernel_rfl) ?_
    refine Sq.done ?_
    refine Ex'.next ?_
    refine Cd.seq ?_
    refine Cd.region rfl ?_
    refine Sq.vals [0, 1, 2, 3, 4] (rest := [5, 6, 7, 8, 9, 10, 11]) [pV b 0, iV 1, pV b 0, pV b 2, pV b 3] (fun w => by kernel_rfl) ?_
    refine Sq.same [0] (l := [arcB b lt1 lt2 lb1 lb2 most p]) (o_load (i := 3) (v := pV lt2 0) (by kernel_rfl) (by kernel_rfl) (by kernel_rfl)) (by kernel_rfl) rfl (by kernel_rfl) rfl ?_
    refine Sq.same [2] (l := [llR lt2 t2 n]) (o_call (by kernel_rfl) Try.call38 (t_Pop (ks := t2) (n := n) (by omega))) (by kernel_rfl) rfl (by kernel_rfl) rfl ?_
    refine Sq.vals [7, 8, 9, 10, 11] (rest := []) [.tuple #[sV (t2.getLast?.getD ⟨#[]⟩), bV (decide (0 < t2.length))], sV (t2.getLast?.getD ⟨#[]⟩), bV (decide (0 < t2.length)), sV (t2.getLast?.getD ⟨#[]⟩), bV (decide (0 < t2.length))] (fun w => by kernel_rfl) ?_
    refine Sq.done ?_
    refine Ex'.next ?_
    refine Cd.seq ?_
    refine Cd.seq ?_
    refine Cd.region rfl ?_
    refine Sq.vals [0] (rest := []) [bV (decide (0 < t2.length))] (fun w => by kernel_rfl) ?_
    refine Sq.done ?_
    refine Ex'.next ?_
    refine Cd.case (p := 0 < t2.length) (by kernel_rfl) (fun h3 => ?_) (fun h3 => ?_)
    ·
      refine Cd.region rfl ?_
      refine Sq.vals [0, 1, 2, 3, 4, 5] (rest := [6, 7, 8]) [pV b 0, iV 1, iV 3, pV b 0, pV b 2, pV b 5] (fun w => by kernel_rfl) ?_
      refine Sq.same [0] (l := [arcB b lt1 lt2 lb1 lb2 most p]) (o_load (i := 5) (v := pV lb2 0) (by kernel_rfl) (by kernel_rfl) (by kernel_rfl)) (by kernel_rfl) rfl (by kernel_rfl) rfl ?_
      refine Sq.vals [7] (rest := [8]) [sV (t2.getLast?.getD ⟨#[]⟩)] (fun w => by kernel_rfl) ?_
      refine Sq.same [4] (l := [llR lb2 b2 n]) (o_call (by kernel_rfl) Try.call30 (t_Front (ks := b2) (n := n) (t2.getLast?.getD ⟨#[]⟩) (by omega))) (by kernel_rfl) rfl (by kernel_rfl) rfl ?_
      refine Sq.done ?_
      refine Ex'.next ?_
      refine Cd.seq ?_
      refine Cd.region rfl ?_
      refine Sq.vals [0, 1, 2, 3] (rest := []) [sV (t2.getLast?.getD ⟨#[]⟩), bV (decide (0 < t2.length)), sV (t2.getLast?.getD ⟨#[]⟩), bV (decide (0 < t2.length))] (fun w => by kernel_rfl) ?_
      refine Sq.done ?_
      refine Ex'.next ?_
      refine Cd.ret ?_
      refine Ex'.ret Try.results35 (RVs.tmp (v := sV (t2.getLast?.getD ⟨#[]⟩)) (by kernel_rfl) (RVs.tmp (v := bV (decide (0 < t2.length))) (by kernel_rfl) (RVs.nil))) (fun w hw => ?_)
      have e : arcYieldF most p t1 t2 b1 b2 = (t1, t2.dropLast, b1, fr b2 (t2.getLast?.getD ⟨#[]⟩), t2.getLast?.getD ⟨#[]⟩, decide (0 < t2.length)) := by unfold arcYieldF; rw [if_neg h1, if_pos h3]
      rw [e]
      exact ⟨_, ⟨rfl, rfl⟩, ((((hw.conv 1 (R := llR lt1 t1 n) (R' := llR lt1 t1 n') (by kernel_rfl) (llR.up (by omega))).conv 2 (R := llR lt2 t2.dropLast n) (R' := llR lt2 t2.dropLast n') (by kernel_rfl) (llR.up (by omega))).conv 3 (R := llR lb1 b1 n) (R' := llR lb1 b1 n') (by kernel_rfl) (llR.up (by omega))).conv 4 (R := llR lb2 (fr b2 (t2.getLast?.getD ⟨#[]⟩)) (n + 1)) (R' := llR lb2 (fr b2 (t2.getLast?.getD ⟨#[]⟩)) n') (by kernel_rfl) (llR.up (by omega))).pickB [0, 1, 2, 3, 4] (by kernel_rfl) (by kernel_rfl) (by kernel_rfl)⟩
    ·
      refine Cd.skip ?_
      refine Ex'.next ?_
      refine Cd.seq ?_
      refine Cd.region rfl ?_
      refine Sq.vals [0, 1, 2, 3] (rest := []) [sV (t2.getLast?.getD ⟨#[]⟩), bV (decide (0 < t2.length)), sV (t2.getLast?.getD ⟨#[]⟩), bV (decide (0 < t2.length))] (fun w => by kernel_rfl) ?_
      refine Sq.done ?_
      refine Ex'.next ?_
      refine Cd.ret ?_
      refine Ex'.ret Try.results35 (RVs.tmp (v := sV (t2.getLast?.getD ⟨#[]⟩)) (by kernel_rfl) (RVs.tmp (v := bV (decide (0 < t2.length))) (by kernel_rfl) (RVs.nil))) (fun w hw => ?_)
      have e : arcYieldF most p t1 t2 b1 b2 = (t1, t2.dropLast, b1, b2, t2.getLast?.getD ⟨#[]⟩, decide (0 < t2.length)) := by unfold arcYieldF; rw [if_neg h1, if_neg h3]
      rw [e]
      exact ⟨_, ⟨rfl, rfl⟩, ((((hw.conv 1 (R := llR lt1 t1 n) (R' := llR lt1 t1 n') (by kernel_rfl) (llR.up (by omega))).conv 2 (R := llR lt2 t2.dropLast n) (R' := llR lt2 t2.dropLast n') (by kernel_rfl) (llR.up (by omega))).conv 3 (R := llR lb1 b1 n) (R' := llR lb1 b1 n') (by kernel_rfl) (llR.up (by omega))).conv 4 (R := llR lb2 b2 n) (R' := llR lb2 b2 n') (by kernel_rfl) (llR.up (by omega))).pickB [0, 1, 2, 3, 4] (by kernel_rfl) (by kernel_rfl) (by kernel_rfl)⟩

def arcYieldT (most : Int) (p : Int) (t1 : List ByteArray) (t2 : List ByteArray) (b1 : List ByteArray) (b2 : List ByteArray)  : List ByteArray × List ByteArray × List ByteArray × List ByteArray × ByteArray × Bool :=
  if (t1.length : Int) > 0 ∧ ((t1.length : Int) > p ∨ (t1.length : Int) = p ∨ (t2.length : Int) = 0) then if 0 < t1.length then (t1.dropLast, t2, fr b1 (t1.getLast?.getD ⟨#[]⟩), b2, t1.getLast?.getD ⟨#[]⟩, decide (0 < t1.length)) else (t1.dropLast, t2, b1, b2, t1.getLast?.getD ⟨#[]⟩, decide (0 < t1.length)) else if 0 < t2.length then (t1, t2.dropLast, b1, fr b2 (t2.getLast?.getD ⟨#[]⟩), t2.getLast?.getD ⟨#[]⟩, decide (0 < t2.length)) else (t1, t2.dropLast, b1, b2, t2.getLast?.getD ⟨#[]⟩, decide (0 < t2.length))

set_option maxHeartbeats 4000000 in
set_option maxRecDepth 100000 in
theorem arc_yieldT {b : Nat} {lt1 : Nat} {lt2 : Nat} {lb1 : Nat} {lb2 : Nat} {n : Nat} {most : Int} {p : Int} {t1 : List ByteArray} {t2 : List ByteArray} {b1 : List ByteArray} {b2 : List ByteArray}  {n' : Nat} (hb : n ≤ 1000000000) (hn : n + 1 ≤ n') : Tri Try.prog 35 #[pV b 0, bV true] (arcL b lt1 lt2 lb1 lb2 most p t1 t2 b1 b2 n) (Same (arcL b lt1 lt2 lb1 lb2 most p ((arcYieldT most p t1 t2 b1 b2).1) ((arcYieldT most p t1 t2 b1 b2).2.1) ((arcYieldT most p t1 t2 b1 b2).2.2.1) ((arcYieldT most p t1 t2 b1 b2).2.2.2.1) n') (.tuple #[sV ((arcYieldT most p t1 t2 b1 b2).2.2.2.2.1), bV ((arcYieldT most p t1 t2 b1 b2).2.2.2.2.2)])) := by
  refine Tri.enter (args := [pV b 0, bV true]) Try.func35 rfl rfl rfl (fun B wz => ?_)
  refine Cd.seq ?_
  refine Cd.region rfl ?_
  refine Sq.vals [0, 1] (rest := []) [sV ⟨#[]⟩, bV false] (fun w => by kernel_rfl) ?_
  refine Sq.done ?_
  refine Ex'.next ?_
  refine Cd.seq ?_
  refine Cd.region rfl ?_
  refine Sq.vals [0, 1] (rest := [2, 3]) [pV b 0, bV true] (fun w => by kernel_rfl) ?_
  by_cases h1 : (t1.length : Int) > 0 ∧ ((t1.length : Int) > p ∨ (t1.length : Int) = p ∨ (t2.length : Int) = 0)
  ·
    refine Sq.same [0, 1, 2, 3, 4] (l := arcL b lt1 lt2 lb1 lb2 most p t1 t2 b1 b2 n) (o_call (by kernel_rfl) Try.call44 (arc_fromT0 (n := n) (most := most) (p := p) (t1 := t1) (t2 := t2) (b1 := b1) (b2 := b2) (by omega) h1)) (by kernel_rfl) rfl (by kernel_rfl) rfl ?_
    refine Sq.vals [3] (rest := []) [iV 0] (fun w => by kernel_rfl) ?_
    refine Sq.done ?_
    refine Ex'.next ?_
    refine Cd.seq ?_
    refine Cd.region rfl ?_
    refine Sq.vals [0, 1, 2, 3, 4] (rest := [5, 6, 7, 8, 9, 10, 11]) [pV b 0, iV 0, pV b 0, pV b 2, pV b 2] (fun w => by kernel_rfl) ?_
    refine Sq.same [0] (l := [arcB b lt1 lt2 lb1 lb2 most p]) (o_load (i := 2) (v := pV lt1 0) (by kernel_rfl) (by kernel_rfl) (by kernel_rfl)) (by kernel_rfl) rfl (by kernel_rfl) rfl ?_
    refine Sq.same [1] (l := [llR lt1 t1 n]) (o_call (by kernel_rfl) Try.call38 (t_Pop (ks := t1) (n := n) (by omega))) (by kernel_rfl) rfl (by kernel_rfl) rfl ?_
    refine Sq.vals [7, 8, 9, 10, 11] (rest := []) [.tuple #[sV (t1.getLast?.getD ⟨#[]⟩), bV (decide (0 < t1.length))], sV (t1.getLast?.getD ⟨#[]⟩), bV (decide (0 < t1.length)), sV (t1.getLast?.getD ⟨#[]⟩), bV (decide (0 < t1.length))] (fun w => by kernel_rfl) ?_
    refine Sq.done ?_
    refine Ex'.next ?_
    refine Cd.seq ?_
    refine Cd.seq ?_
    refine Cd.region rfl ?_
    refine Sq.vals [0] (rest := []) [bV (decide (0 < t1.length))] (fun w => by kernel_rfl) ?_
    refine Sq.done ?_
    refine Ex'.next ?_
    refine Cd.case (p := 0 < t1.length) (by kernel_rfl) (fun h2 => ?_) (fun h2 => ?_)
    ·
      refine Cd.region rfl ?_
      refine Sq.vals [0, 1, 2, 3, 4, 5] (rest := [6, 7, 8]) [pV b 0, iV 0, iV 2, pV b 0, pV b 2, pV b 4] (fun w => by kernel_rfl) ?_
      refine Sq.same [0] (l := [arcB b lt1 lt2 lb1 lb2 most p]) (o_load (i := 4) (v := pV lb1 0) (by kernel_rfl) (by kernel_rfl) (by kernel_rfl)) (by kernel_rfl) rfl (by kernel_rfl) rfl ?_
      refine Sq.vals [7] (rest := [8]) [sV (t1.getLast?.getD ⟨#[]⟩)] (fun w => by kernel_rfl) ?_
      refine Sq.same [3] (l := [llR lb1 b1 n]) (o_call (by kernel_rfl) Try.call30 (t_Front (ks := b1) (n := n) (t1.getLast?.getD ⟨#[]⟩) (by omega))) (by kernel_rfl) rfl (by kernel_rfl) rfl ?_
      refine Sq.done ?_
      refine Ex'.next ?_
      refine Cd.seq ?_
      refine Cd.region rfl ?_
      refine Sq.vals [0, 1, 2, 3] (rest := []) [sV (t1.getLast?.getD ⟨#[]⟩), bV (decide (0 < t1.length)), sV (t1.getLast?.getD ⟨#[]⟩), bV (decide (0 < t1.length))] (fun w => by kernel_rfl) ?_
      refine Sq.done ?_
      refine Ex'.next ?_
      refine Cd.ret ?_
      refine Ex'.ret Try.results35 (RVs.tmp (v := sV (t1.getLast?.getD ⟨#[]⟩)) (by kernel_rfl) (RVs.tmp (v := bV (decide (0 < t1.length))) (by kernel_rfl) (RVs.nil))) (fun w hw => ?_)
      have e : arcYieldT most p t1 t2 b1 b2 = (t1.dropLast, t2, fr b1 (t1.getLast?.getD ⟨#[]⟩), b2, t1.getLast?.getD ⟨#[]⟩, decide (0 < t1.length)) := by unfold arcYieldT; rw [if_pos h1, if_pos h2]
      rw [e]
      exact ⟨_, ⟨rfl, rfl⟩, ((((hw.conv 1 (R := llR lt1 t1.dropLast n) (R' := llR lt1 t1.dropLast n') (by kernel_rfl) (llR.up (by omega))).conv 2 (R := llR lt2 t2 n) (R' := llR lt2 t2 n') (by kernel_rfl) (llR.up (by omega))).conv 3 (R := llR lb1 (fr b1 (t1.getLast?.getD ⟨#[]⟩)) (n + 1)) (R' := llR lb1 (fr b1 (t1.getLast?.getD ⟨#[]⟩)) n') (by kernel_rfl) (llR.up (by omega))).conv 4 (R := llR lb2 b2 n) (R' := llR lb2 b2 n') (by kernel_rfl) (llR.up (by omega))).pickB [0, 1, 2, 3, 4] (by kernel_rfl) (by kernel_rfl) (by kernel_rfl)⟩
    ·
      refine Cd.skip ?_
      refine Ex'.next ?_
      refine Cd.seq ?_
      refine Cd.region rfl ?_
      refine Sq.vals [0, 1, 2, 3] (rest := []) [sV (t1.getLast?.getD ⟨#[]⟩), bV (decide (0 < t1.length)), sV (t1.getLast?.getD ⟨#[]⟩), bV (decide (0 < t1.length))] (fun w => by kernel_rfl) ?_
      refine Sq.done ?_
      refine Ex'.next ?_
      refine Cd.ret ?_
      refine Ex'.ret Try.results35 (RVs.tmp (v := sV (t1.getLast?.getD ⟨#[]⟩)) (by kernel_rfl) (RVs.tmp (v := bV (decide (0 < t1.length))) (by kernel_rfl) (RVs.nil))) (fun w hw => ?_)
      have e : arcYieldT most p t1 t2 b1 b2 = (t1.dropLast, t2, b1, b2, t1.getLast?.getD ⟨#[]⟩, decide (0 < t1.length)) := by unfold arcYieldT; rw [if_pos h1, if_neg h2]
      rw [e]
      exact ⟨_, ⟨rfl, rfl⟩, ((((hw.conv 1 (R := llR lt1 t1.dropLast n) (R' := llR lt1 t1.dropLast n') (by kernel_rfl) (llR.up (by omega))).conv 2 (R := llR lt2 t2 n) (R' := llR lt2 t2 n') (by kernel_rfl) (llR.up (by omega))).conv 3 (R := llR lb1 b1 n) (R' := llR lb1 b1 n') (by kernel_rfl) (llR.up (by omega))).conv 4 (R := llR lb2 b2 n) (R' := llR lb2 b2 n') (by kernel_rfl) (llR.up (by omega))).pickB [0, 1, 2, 3, 4] (by kernel_rfl) (by kernel_rfl) (by kernel_rfl)⟩
  ·
    refine Sq.same [0, 1, 2, 3, 4] (l := arcL b lt1 lt2 lb1 lb2 most p t1 t2 b1 b2 n) (o_call (by kernel_rfl) Try.call44 (arc_fromT1 (n := n) (most := most) (p := p) (t1 := t1) (t2 := t2) (b1 := b1) (b2 := b2) (by omega) h1)) (by kernel_rfl) rfl (by kernel_rfl) rfl ?_
    refine Sq.vals [3] (rest := []) [iV 1] (fun w => by kernel_rfl) ?_
    refine Sq.done ?_
    refine Ex'.next ?_
    refine Cd.seq ?_
    refine Cd.region rfl ?_
    refine Sq.vals [0, 1, 2, 3, 4] (rest := [5, 6, 7, 8, 9, 10, 11]) [pV b 0, iV 1, pV b 0, pV b 2, pV b 3] (fun w => by kernel_rfl) ?_
    refine Sq.same [0] (l := [arcB b lt1 lt2 lb1 lb2 most p]) (o_load (i := 3) (v := pV lt2 0) (by kernel_rfl) (by kernel_rfl) (by kernel_rfl)) (by kernel_rfl) rfl (by kernel_rfl) rfl ?_
    refine Sq.same [2] (l := [llR lt2 t2 n]) (o_call (by kernel_rfl) Try.call38 (t_Pop (ks := t2) (n := n) (by omega))) (by kernel_rfl) rfl (by kernel_rfl) rfl ?_
    refine Sq.vals [7, 8, 9, 10, 11] (rest := []) [.tuple #[sV (t2.getLast?.getD ⟨#[]⟩), bV (decide (0 < t2.length))], sV (t2.getLast?.getD ⟨#[]⟩), bV (decide (0 < t2.length)), sV (t2.getLast?.getD ⟨#[]⟩), bV (decide (0 < t2.length))] (fun w => by kernel_rfl) ?_
    refine Sq.done ?_
    refine Ex'.next ?_
    refine Cd.seq ?_
    refine Cd.seq ?_
    refine Cd.region rfl ?_
    refine Sq.vals [0] (rest := []) [bV (decide (0 < t2.length))] (fun w => by kernel_rfl) ?_
    refine Sq.done ?_
    refine Ex'.next ?_
    refine Cd.case (p := 0 < t2.length) (by kernel_rfl) (fun h3 => ?_) (fun h3 => ?_)
    ·
      refine Cd.region rfl ?_
      refine Sq.vals [0, 1, 2, 3, 4, 5] (rest := [6, 7, 8]) [pV b 0, iV 1, iV 3, pV b 0, pV b 2, pV b 5] (fun w => by kernel_rfl) ?_
      refine Sq.same [0] (l := [arcB b lt1 lt2 lb1 lb2 most p]) (o_load (i := 5) (v := pV lb2 0) (by kernel_rfl) (by kernel_rfl) (by kernel_rfl)) (by kernel_rfl) rfl (by kernel_rfl) rfl ?_
      refine Sq.vals [7] (rest := [8]) [sV (t2.getLast?.getD ⟨#[]⟩)] (fun w => by kernel_rfl) ?_
      refine Sq.same [4] (l := [llR lb2 b2 n]) (o_call (by kernel_rfl) Try.call30 (t_Front (ks := b2) (n := n) (t2.getLast?.getD ⟨#[]⟩) (by omega))) (by kernel_rfl) rfl (by kernel_rfl) rfl ?_
      refine Sq.done ?_
      refine Ex'.next ?_
      refine Cd.seq ?_
      refine Cd.region rfl ?_
      refine Sq.vals [0, 1, 2, 3] (rest := []) [sV (t2.getLast?.getD ⟨#[]⟩), bV (decide (0 < t2.length)), sV (t2.getLast?.getD ⟨#[]⟩), bV (decide (0 < t2.length))] (fun w => by kernel_rfl) ?_
      refine Sq.done ?_
      refine Ex'.next ?_
      refine Cd.ret ?_
      refine Ex'.ret Try.results35 (RVs.tmp (v := sV (t2.getLast?.getD ⟨#[]⟩)) (by kernel_rfl) (RVs.tmp (v := bV (decide (0 < t2.length))) (by kernel_rfl) (RVs.nil))) (fun w hw => ?_)
      have e : arcYieldT most p t1 t2 b1 b2 = (t1, t2.dropLast, b1, fr b2 (t2.getLast?.getD ⟨#[]⟩), t2.getLast?.getD ⟨#[]⟩, decide (0 < t2.length)) := by unfold arcYieldT; rw [if_neg h1, if_pos h3]
      rw [e]
      exact ⟨_, ⟨rfl, rfl⟩, ((((hw.conv 1 (R := llR lt1 t1 n) (R' := llR lt1 t1 n') (by kernel_rfl) (llR.up (by omega))).conv 2 (R := llR lt2 t2.dropLast n) (R' := llR lt2 t2.dropLast n') (by kernel_rfl) (llR.up (by omega))).conv 3 (R := llR lb1 b1 n) (R' := llR lb1 b1 n') (by kernel_rfl) (llR.up (by omega))).conv 4 (R := llR lb2 (fr b2 (t2.getLast?.getD ⟨#[]⟩)) (n + 1)) (R' := llR lb2 (fr b2 (t2.getLast?.getD ⟨#[]⟩)) n') (by kernel_rfl) (llR.up (by omega))).pickB [0, 1, 2, 3, 4] (by kernel_rfl) (by kernel_rfl) (by kernel_rfl)⟩
    ·
      refine Cd.skip ?_
      refine Ex'.next ?_
      refine Cd.seq ?_
      refine Cd.region rfl ?_
      refine Sq.vals [0, 1, 2, 3] (rest := []) [sV (t2.getLast?.getD ⟨#[]⟩), bV (decide (0 < t2.length)), sV (t2.getLast?.getD ⟨#[]⟩), bV (decide (0 < t2.length))] (fun w => by kernel_rfl) ?_
      refine Sq.done ?_
      refine Ex'.next ?_
      refine Cd.ret ?_
      refine Ex'.ret Try.results35 (RVs.tmp (v := sV (t2.getLast?.getD ⟨#[]⟩)) (by kernel_rfl) (RVs.tmp (v := bV (decide (0 < t2.length))) (by kernel_rfl) (RVs.nil))) (fun w hw => ?_)
      have e : arcYieldT most p t1 t2 b1 b2 = (t1, t2.dropLast, b1, b2, t2.getLast?.getD ⟨#[]⟩, decide (0 < t2.length)) := by unfold arcYieldT; rw [if_neg h1, if_neg h3]
      rw [e]
      exact ⟨_, ⟨rfl, rfl⟩, ((((hw.conv 1 (R := llR lt1 t1 n) (R' := llR lt1 t1 n') (by kernel_rfl) (llR.up (by omega))).conv 2 (R := llR lt2 t2.dropLast n) (R' := llR lt2 t2.dropLast n') (by kernel_rfl) (llR.up (by omega))).conv 3 (R := llR lb1 b1 n) (R' := llR lb1 b1 n') (by kernel_rfl) (llR.up (by omega))).conv 4 (R := llR lb2 b2 n) (R' := llR lb2 b2 n') (by kernel_rfl) (llR.up (by omega))).pickB [0, 1, 2, 3, 4] (by kernel_rfl) (by kernel_rfl) (by kernel_rfl)⟩

def arcRoomF (most : Int) (p : Int) (t1 : List ByteArray) (t2 : List ByteArray) (b1 : List ByteArray) (b2 : List ByteArray)  : List ByteArray × List ByteArray × List ByteArray × List ByteArray × ByteArray × Bool :=
  if arcLen most p t1 t2 b1 b2 < most then (t1, t2, b1, b2, ⟨#[]⟩, false) else ((arcYieldF most p t1 t2 b1 b2).1, (arcYieldF most p t1 t2 b1 b2).2.1, (arcYieldF most p t1 t2 b1 b2).2.2.1, (arcYieldF most p t1 t2 b1 b2).2.2.2.1, (arcYieldF most p t1 t2 b1 b2).2.2.2.2.1, (arcYieldF most p t1 t2 b1 b2).2.2.2.2.2)

set_option maxHeartbeats 4000000 in
set_option maxRecDepth 100000 in
theorem arc_roomF {b : Nat} {lt1 : Nat} {lt2 : Nat} {lb1 : Nat} {lb2 : Nat} {n : Nat} {most : Int} {p : Int} {t1 : List ByteArray} {t2 : List ByteArray} {b1 : List ByteArray} {b2 : List ByteArray}  {n' : Nat} (hb : n ≤ 1000000000) (hn : n + 1 ≤ n') : Tri Try.prog 27 #[pV b 0, bV false] (arcL b lt1 lt2 lb1 lb2 most p t1 t2 b1 b2 n) (Same (arcL b lt1 lt2 lb1 lb2 most p ((arcRoomF most p t1 t2 b1 b2).1) ((arcRoomF most p t1 t2 b1 b2).2.1) ((arcRoomF most p t1 t2 b1 b2).2.2.1) ((arcRoomF most p t1 t2 b1 b2).2.2.2.1) n') (.tuple #[sV ((arcRoomF most p t1 t2 b1 b2).2.2.2.2.1), bV ((arcRoomF most p t1 t2 b1 b2).2.2.2.2.2)])) := by
  refine Tri.enter (args := [pV b 0, bV false]) Try.func27 rfl rfl rfl (fun B wz => ?_)
  refine Cd.seq ?_
  refine Cd.region rfl ?_
  refine Sq.vals [0, 1] (rest := []) [sV ⟨#[]⟩, bV false] (fun w => by kernel_rfl) ?_
  refine Sq.done ?_
  refine Ex'.next ?_
  refine Cd.seq ?_
  refine Cd.seq ?_
  refine Cd.plan [0, 1, 0, 4, 12, 28, 63] [(1, [(0, false, 0), (1, false, 0), (2, false, 0), (3, false, 0), (4, false, 0)]), (5, [(0, false, 0)])] [] [] [] [fun g => pV b 0, fun g => iV (arcLen most p t1 t2 b1 b2), fun g => pV b 0, fun g => pV b 0, fun g => pV b 0, fun g => iV most, fun g => bV (decide (arcLen most p t1 t2 b1 b2 < most))] (by kernel_rfl) (by kernel_rfl) rfl (trivial) ?_ ?_
  · exact ⟨ob_val fun g w => by kernel_rfl, ob_s (l := fun g => [arcB b lt1 lt2 lb1 lb2 most p, llR lt1 t1 n, llR lt2 t2 n, llR lb1 b1 n, llR lb2 b2 n]) (l' := fun g => [arcB b lt1 lt2 lb1 lb2 most p, llR lt1 t1 n, llR lt2 t2 n, llR lb1 b1 n, llR lb2 b2 n]) (v := fun g => iV (arcLen most p t1 t2 b1 b2)) (fun g => o_call (by kernel_rfl) Try.call23 (arc_Len (n := n) (most := most) (p := p) (t1 := t1) (t2 := t2) (b1 := b1) (b2 := b2) (by omega))) (fun g => by kernel_rfl), ob_val fun g w => by kernel_rfl, ob_val fun g w => by kernel_rfl, ob_val fun g w => by kernel_rfl, ob_s (l := fun g => [arcB b lt1 lt2 lb1 lb2 most p]) (l' := fun g => [arcB b lt1 lt2 lb1 lb2 most p]) (v := fun g => iV most) (fun g => o_load (i := 0) (v := iV most) (by kernel_rfl) (by kernel_rfl) (by kernel_rfl)) (fun g => by kernel_rfl), ob_val fun g w => by kernel_rfl, trivial⟩
  intro g
  refine Ex'.sub (subB_spec [0, 1, 4, 5, 12]) ?_
  refine Ex'.as [0, 1, 2, 3, 4] (σ' := [(0, pV b 0), (1, bV false), (4, sV ⟨#[]⟩), (5, bV false), (12, bV (decide (arcLen most p t1 t2 b1 b2 < most)))]) (Γ' := [arcB b lt1 lt2 lb1 lb2 most p, llR lt1 t1 n, llR lt2 t2 n, llR lb1 b1 n, llR lb2 b2 n]) (by kernel_rfl) rfl (by kernel_rfl) (by kernel_rfl) ?_
  refine Ex'.next ?_
  refine Cd.case (p := arcLen most p t1 t2 b1 b2 < most) (by kernel_rfl) (fun h1 => ?_) (fun h1 => ?_)
  ·
    refine Cd.seq ?_
    refine Cd.region rfl ?_
    refine Sq.vals [0, 1] (rest := []) [sV ⟨#[]⟩, bV false] (fun w => by kernel_rfl) ?_
    refine Sq.done ?_
    refine Ex'.next ?_
    refine Cd.ret ?_
    refine Ex'.thenRet ?_
    refine Ex'.ret Try.results27 (RVs.tmp (v := sV ⟨#[]⟩) (by kernel_rfl) (RVs.tmp (v := bV false) (by kernel_rfl) (RVs.nil))) (fun w hw => ?_)
    have e : arcRoomF most p t1 t2 b1 b2 = (t1, t2, b1, b2, ⟨#[]⟩, false) := by unfold arcRoomF; rw [if_pos h1]
    rw [e]
    exact ⟨_, ⟨rfl, rfl⟩, ((((hw.conv 1 (R := llR lt1 t1 n) (R' := llR lt1 t1 n') (by kernel_rfl) (llR.up (by omega))).conv 2 (R := llR lt2 t2 n) (R' := llR lt2 t2 n') (by kernel_rfl) (llR.up (by omega))).conv 3 (R := llR lb1 b1 n) (R' := llR lb1 b1 n') (by kernel_rfl) (llR.up (by omega))).conv 4 (R := llR lb2 b2 n) (R' := llR lb2 b2 n') (by kernel_rfl) (llR.up (by omega))).pickB [0, 1, 2, 3, 4] (by kernel_rfl) (by kernel_rfl) (by kernel_rfl)⟩
  ·
    refine Cd.skip ?_
    refine Ex'.next ?_
    refine Cd.seq ?_
    refine Cd.region rfl ?_
    refine Sq.vals [0, 1] (rest := [2, 3, 4, 5, 6]) [pV b 0, bV false] (fun w => by kernel_rfl) ?_
    refine Sq.same [0, 1, 2, 3, 4] (l := arcL b lt1 lt2 lb1 lb2 most p t1 t2 b1 b2 n) (o_call (by kernel_rfl) Try.call35 (arc_yieldF (n := n) (n' := n + 1) (most := most) (p := p) (t1 := t1) (t2 := t2) (b1 := b1) (b2 := b2) (by omega) (by omega))) (by kernel_rfl) rfl (by kernel_rfl) rfl ?_
    refine Sq.vals [3, 4, 5, 6] (rest := []) [sV ((arcYieldF most p t1 t2 b1 b2).2.2.2.2.1), bV ((arcYieldF most p t1 t2 b1 b2).2.2.2.2.2), sV ((arcYieldF most p t1 t2 b1 b2).2.2.2.2.1), bV ((arcYieldF most p t1 t2 b1 b2).2.2.2.2.2)] (fun w => by kernel_rfl) ?_
    refine Sq.done ?_
    refine Ex'.next ?_
    refine Cd.ret ?_
    refine Ex'.ret Try.results27 (RVs.tmp (v := sV ((arcYieldF most p t1 t2 b1 b2).2.2.2.2.1)) (by kernel_rfl) (RVs.tmp (v := bV ((arcYieldF most p t1 t2 b1 b2).2.2.2.2.2)) (by kernel_rfl) (RVs.nil))) (fun w hw => ?_)
    have e : arcRoomF most p t1 t2 b1 b2 = ((arcYieldF most p t1 t2 b1 b2).1, (arcYieldF most p t1 t2 b1 b2).2.1, (arcYieldF most p t1 t2 b1 b2).2.2.1, (arcYieldF most p t1 t2 b1 b2).2.2.2.1, (arcYieldF most p t1 t2 b1 b2).2.2.2.2.1, (arcYieldF most p t1 t2 b1 b2).2.2.2.2.2) := by unfold arcRoomF; rw [if_neg h1]
    rw [e]
    exact ⟨_, ⟨rfl, rfl⟩, ((((hw.conv 1 (R := llR lt1 ((arcYieldF most p t1 t2 b1 b2).1) (n + 1)) (R' := llR lt1 ((arcYieldF most p t1 t2 b1 b2).1) n') (by kernel_rfl) (llR.up (by omega))).conv 2 (R := llR lt2 ((arcYieldF most p t1 t2 b1 b2).2.1) (n + 1)) (R' := llR lt2 ((arcYieldF most p t1 t2 b1 b2).2.1) n') (by kernel_rfl) (llR.up (by omega))).conv 3 (R := llR lb1 ((arcYieldF most p t1 t2 b1 b2).2.2.1) (n + 1)) (R' := llR lb1 ((arcYieldF most p t1 t2 b1 b2).2.2.1) n') (by kernel_rfl) (llR.up (by omega))).conv 4 (R := llR lb2 ((arcYieldF most p t1 t2 b1 b2).2.2.2.1) (n + 1)) (R' := llR lb2 ((arcYieldF most p t1 t2 b1 b2).2.2.2.1) n') (by kernel_rfl) (llR.up (by omega))).pickB [0, 1, 2, 3, 4] (by kernel_rfl) (by kernel_rfl) (by kernel_rfl)⟩

def arcRoomT (most : Int) (p : Int) (t1 : List ByteArray) (t2 : List ByteArray) (b1 : List ByteArray) (b2 : List ByteArray)  : List ByteArray × List ByteArray × List ByteArray × List ByteArray × ByteArray × Bool :=
  if arcLen most p t1 t2 b1 b2 < most then (t1, t2, b1, b2, ⟨#[]⟩, false) else ((arcYieldT most p t1 t2 b1 b2).1, (arcYieldT most p t1 t2 b1 b2).2.1, (arcYieldT most p t1 t2 b1 b2).2.2.1, (arcYieldT most p t1 t2 b1 b2).2.2.2.1, (arcYieldT most p t1 t2 b1 b2).2.2.2.2.1, (arcYieldT most p t1 t2 b1 b2).2.2.2.2.2)

set_option maxHeartbeats 4000000 in
set_option maxRecDepth 100000 in
theorem arc_roomT {b : Nat} {lt1 : Nat} {lt2 : Nat} {lb1 : Nat} {lb2 : Nat} {n : Nat} {most : Int} {p : Int} {t1 : List ByteArray} {t2 : List ByteArray} {b1 : List ByteArray} {b2 : List ByteArray}  {n' : Nat} (hb : n ≤ 1000000000) (hn : n + 1 ≤ n') : Tri Try.prog 27 #[pV b 0, bV true] (arcL b lt1 lt2 lb1 lb2 most p t1 t2 b1 b2 n) (Same (arcL b lt1 lt2 lb1 lb2 most p ((arcRoomT most p t1 t2 b1 b2).1) ((arcRoomT most p t1 t2 b1 b2).2.1) ((arcRoomT most p t1 t2 b1 b2).2.2.1) ((arcRoomT most p t1 t2 b1 b2).2.2.2.1) n') (.tuple #[sV ((arcRoomT most p t1 t2 b1 b2).2.2.2.2.1), bV ((arcRoomT most p t1 t2 b1 b2).2.2.2.2.2)])) := by
  refine Tri.enter (args := [pV b 0, bV true]) Try.func27 rfl rfl rfl (fun B wz => ?_)
  refine Cd.seq ?_
  refine Cd.region rfl ?_
  refine Sq.vals [0, 1] (rest := []) [sV ⟨#[]⟩, bV false] (fun w => by kernel_rfl) ?_
  refine Sq.done ?_
  refine Ex'.next ?_
  refine Cd.seq ?_
  refine Cd.seq ?_
  refine Cd.plan [0, 1, 0, 4, 12, 28, 63] [(1, [(0, false, 0), (1, false, 0), (2, false, 0), (3, false, 0), (4, false, 0)]), (5, [(0, false, 0)])] [] [] [] [fun g => pV b 0, fun g => iV (arcLen most p t1 t2 b1 b2), fun g => pV b 0, fun g => pV b 0, fun g => pV b 0, fun g => iV most, fun g => bV (decide (arcLen most p t1 t2 b1 b2 < most))] (by kernel_rfl) (by kernel_rfl) rfl (trivial) ?_ ?_
  · exact ⟨ob_val fun g w => by kernel_rfl, ob_s (l := fun g => [arcB b lt1 lt2 lb1 lb2 most p, llR lt1 t1 n, llR lt2 t2 n, llR lb1 b1 n, llR lb2 b2 n]) (l' := fun g => [arcB b lt1 lt2 lb1 lb2 most p, llR lt1 t1 n, llR lt2 t2 n, llR lb1 b1 n, llR lb2 b2 n]) (v := fun g => iV (arcLen most p t1 t2 b1 b2)) (fun g => o_call (by kernel_rfl) Try.call23 (arc_Len (n := n) (most := most) (p := p) (t1 := t1) (t2 := t2) (b1 := b1) (b2 := b2) (by omega))) (fun g => by kernel_rfl), ob_val fun g w => by kernel_rfl, ob_val fun g w => by kernel_rfl, ob_val fun g w => by kernel_rfl, ob_s (l := fun g => [arcB b lt1 lt2 lb1 lb2 most p]) (l' := fun g => [arcB b lt1 lt2 lb1 lb2 most p]) (v := fun g => iV most) (fun g => o_load (i := 0) (v := iV most) (by kernel_rfl) (by kernel_rfl) (by kernel_rfl)) (fun g => by kernel_rfl), ob_val fun g w => by kernel_rfl, trivial⟩
  intro g
  refine Ex'.sub (subB_spec [0, 1, 4, 5, 12]) ?_
  refine Ex'.as [0, 1, 2, 3, 4] (σ' := [(0, pV b 0), (1, bV true), (4, sV ⟨#[]⟩), (5, bV false), (12, bV (decide (arcLen most p t1 t2 b1 b2 < most)))]) (Γ' := [arcB b lt1 lt2 lb1 lb2 most p, llR lt1 t1 n, llR lt2 t2 n, llR lb1 b1 n, llR lb2 b2 n]) (by kernel_rfl) rfl (by kernel_rfl) (by kernel_rfl) ?_
  refine Ex'.next ?_
  refine Cd.case (p := arcLen most p t1 t2 b1 b2 < most) (by kernel_rfl) (fun h1 => ?_) (fun h1 => ?_)
  ·
    refine Cd.seq ?_
    refine Cd.region rfl ?_
    refine Sq.vals [0, 1] (rest := []) [sV ⟨#[]⟩, bV false] (fun w => by kernel_rfl) ?_
    refine Sq.done ?_
    refine Ex'.next ?_
    refine Cd.ret ?_
    refine Ex'.thenRet ?_
    refine Ex'.ret Try.results27 (RVs.tmp (v := sV ⟨#[]⟩) (by kernel_rfl) (RVs.tmp (v := bV false) (by kernel_rfl) (RVs.nil))) (fun w hw => ?_)
    have e : arcRoomT most p t1 t2 b1 b2 = (t1, t2, b1, b2, ⟨#[]⟩, false) := by unfold arcRoomT; rw [if_pos h1]
    rw [e]
    exact ⟨_, ⟨rfl, rfl⟩, ((((hw.conv 1 (R := llR lt1 t1 n) (R' := llR lt1 t1 n') (by kernel_rfl) (llR.up (by omega))).conv 2 (R := llR lt2 t2 n) (R' := llR lt2 t2 n') (by kernel_rfl) (llR.up (by omega))).conv 3 (R := llR lb1 b1 n) (R' := llR lb1 b1 n') (by kernel_rfl) (llR.up (by omega))).conv 4 (R := llR lb2 b2 n) (R' := llR lb2 b2 n') (by kernel_rfl) (llR.up (by omega))).pickB [0, 1, 2, 3, 4] (by kernel_rfl) (by kernel_rfl) (by kernel_rfl)⟩
  ·
    refine Cd.skip ?_
    refine Ex'.next ?_
    refine Cd.seq ?_
    refine Cd.region rfl ?_
    refine Sq.vals [0, 1] (rest := [2, 3, 4, 5, 6]) [pV b 0, bV true] (fun w => by kernel_rfl) ?_
    refine Sq.same [0, 1, 2, 3, 4] (l := arcL b lt1 lt2 lb1 lb2 most p t1 t2 b1 b2 n) (o_call (by kernel_rfl) Try.call35 (arc_yieldT (n := n) (n' := n + 1) (most := most) (p := p) (t1 := t1) (t2 := t2) (b1 := b1) (b2 := b2) (by omega) (by omega))) (by kernel_rfl) rfl (by kernel_rfl) rfl ?_
    refine Sq.vals [3, 4, 5, 6] (rest := []) [sV ((arcYieldT most p t1 t2 b1 b2).2.2.2.2.1), bV ((arcYieldT most p t1 t2 b1 b2).2.2.2.2.2), sV ((arcYieldT most p t1 t2 b1 b2).2.2.2.2.1), bV ((arcYieldT most p t1 t2 b1 b2).2.2.2.2.2)] (fun w => by kernel_rfl) ?_
    refine Sq.done ?_
    refine Ex'.next ?_
    refine Cd.ret ?_
    refine Ex'.ret Try.results27 (RVs.tmp (v := sV ((arcYieldT most p t1 t2 b1 b2).2.2.2.2.1)) (by kernel_rfl) (RVs.tmp (v := bV ((arcYieldT most p t1 t2 b1 b2).2.2.2.2.2)) (by kernel_rfl) (RVs.nil))) (fun w hw => ?_)
    have e : arcRoomT most p t1 t2 b1 b2 = ((arcYieldT most p t1 t2 b1 b2).1, (arcYieldT most p t1 t2 b1 b2).2.1, (arcYieldT most p t1 t2 b1 b2).2.2.1, (arcYieldT most p t1 t2 b1 b2).2.2.2.1, (arcYieldT most p t1 t2 b1 b2).2.2.2.2.1, (arcYieldT most p t1 t2 b1 b2).2.2.2.2.2) := by unfold arcRoomT; rw [if_neg h1]
    rw [e]
    exact ⟨_, ⟨rfl, rfl⟩, ((((hw.conv 1 (R := llR lt1 ((arcYieldT most p t1 t2 b1 b2).1) (n + 1)) (R' := llR lt1 ((arcYieldT most p t1 t2 b1 b2).1) n') (by kernel_rfl) (llR.up (by omega))).conv 2 (R := llR lt2 ((arcYieldT most p t1 t2 b1 b2).2.1) (n + 1)) (R' := llR lt2 ((arcYieldT most p t1 t2 b1 b2).2.1) n') (by kernel_rfl) (llR.up (by omega))).conv 3 (R := llR lb1 ((arcYieldT most p t1 t2 b1 b2).2.2.1) (n + 1)) (R' := llR lb1 ((arcYieldT most p t1 t2 b1 b2).2.2.1) n') (by kernel_rfl) (llR.up (by omega))).conv 4 (R := llR lb2 ((arcYieldT most p t1 t2 b1 b2).2.2.2.1) (n + 1)) (R' := llR lb2 ((arcYieldT most p t1 t2 b1 b2).2.2.2.1) n') (by kernel_rfl) (llR.up (by omega))).pickB [0, 1, 2, 3, 4] (by kernel_rfl) (by kernel_rfl) (by kernel_rfl)⟩

def arcFresh (most : Int) (p : Int) (t1 : List ByteArray) (t2 : List ByteArray) (b1 : List ByteArray) (b2 : List ByteArray)  : List ByteArray × List ByteArray × List ByteArray × List ByteArray × ByteArray × Bool :=
  if arcAll2 most p t1 t2 b1 b2 ≥ most then if (t1.length : Int) ≥ most then (t1.dropLast, t2, b1, b2, t1.getLast?.getD ⟨#[]⟩, decide (0 < t1.length)) else ((arcRoomF most p t1 t2 b1.dropLast b2).1, (arcRoomF most p t1 t2 b1.dropLast b2).2.1, (arcRoomF most p t1 t2 b1.dropLast b2).2.2.1, (arcRoomF most p t1 t2 b1.dropLast b2).2.2.2.1, (arcRoomF most p t1 t2 b1.dropLast b2).2.2.2.2.1, (arcRoomF most p t1 t2 b1.dropLast b2).2.2.2.2.2) else if (arcAll4 most p t1 t2 b1 b2) - most ≥ most then ((arcRoomF most p t1 t2 b1 b2.dropLast).1, (arcRoomF most p t1 t2 b1 b2.dropLast).2.1, (arcRoomF most p t1 t2 b1 b2.dropLast).2.2.1, (arcRoomF most p t1 t2 b1 b2.dropLast).2.2.2.1, (arcRoomF most p t1 t2 b1 b2.dropLast).2.2.2.2.1, (arcRoomF most p t1 t2 b1 b2.dropLast).2.2.2.2.2) else if arcAll4 most p t1 t2 b1 b2 < most then (t1, t2, b1, b2, ⟨#[]⟩, false) else ((arcRoomF most p t1 t2 b1 b2).1, (arcRoomF most p t1 t2 b1 b2).2.1, (arcRoomF most p t1 t2 b1 b2).2.2.1, (arcRoomF most p t1 t2 b1 b2).2.2.2.1, (arcRoomF most p t1 t2 b1 b2).2.2.2.2.1, (arcRoomF most p t1 t2 b1 b2).2.2.2.2.2)

set_option maxHeartbeats 4000000 in
set_option maxRecDepth 100000 in
theorem arc_fresh {b : Nat} {lt1 : Nat} {lt2 : Nat} {lb1 : Nat} {lb2 : Nat} {n : Nat} {most : Int} {p : Int} {t1 : List ByteArray} {t2 : List ByteArray} {b1 : List ByteArray} {b2 : List ByteArray}  {n' : Nat} (hb : n ≤ 1000000000) (hn : n + 1 ≤ n') (h0 : 0 ≤ most ∧ most ≤ 4611686018427387904) : Tri Try.prog 28 #[pV b 0] (arcL b lt1 lt2 lb1 lb2 most p t1 t2 b1 b2 n) (Same (arcL b lt1 lt2 lb1 lb2 most p ((arcFresh most p t1 t2 b1 b2).1) ((arcFresh most p t1 t2 b1 b2).2.1) ((arcFresh most p t1 t2 b1 b2).2.2.1) ((arcFresh most p t1 t2 b1 b2).2.2.2.1) n') (.tuple #[sV ((arcFresh most p t1 t2 b1 b2).2.2.2.2.1), bV ((arcFresh most p t1 t2 b1 b2).2.2.2.2.2)])) := by
  refine Tri.enter (args := [pV b 0]) Try.func28 rfl rfl rfl (fun B wz => ?_)
  refine Cd.fact (i := 1) rfl llR.le ?_; rintro ⟨_, hl1⟩
  refine Cd.fact (i := 2) rfl llR.le ?_; rintro ⟨_, hl2⟩
  refine Cd.fact (i := 3) rfl llR.le ?_; rintro ⟨_, hl3⟩
  refine Cd.fact (i := 4) rfl llR.le ?_; rintro ⟨_, hl4⟩
  have hall2 := @arcAll2_eq most p t1 t2 b1 b2
  have hall4 := @arcAll4_eq most p t1 t2 b1 b2
  refine Cd.seq ?_
  refine Cd.region rfl ?_
  refine Sq.vals [0, 1] (rest := []) [sV ⟨#[]⟩, bV false] (fun w => by kernel_rfl) ?_
  refine Sq.done ?_
  refine Ex'.next ?_
  refine Cd.seq ?_
  refine Cd.block ?_
  refine Cd.seq ?_
  by_cases h4 : arcAll2 most p t1 t2 b1 b2 ≥ most
  ·
    refine Cd.plan (0 :: 0 :: 3 :: 0 :: 8 :: 24 :: 56 :: 127 :: 255 :: 511 :: 1023 :: 2047 :: 4095 :: 8191 :: 16383 :: 511 :: 33279 :: 98815 :: 229887 :: 524287 :: 1048575 :: 2097151 :: []) [(2, [(0, false, 0), (1, false, 0), (2, false, 0), (3, false, 0), (4, false, 0), (6, false, 2)]), (6, [(0, false, 0)]), (13, [(0, false, 0)]), (14, [(1, false, 0)]), (18, [(0, false, 0)])] [1] [(1, fun _ => True)] [(6, 1, fun g => blkR (slOf (g 1)) [iV 0, iV 2] 3)] ((fun g => pV b 0) :: (fun g => .slice (some ⟨(slOf (g 1)), 0, none⟩) 2 2) :: (fun g => iV (arcAll2 most p t1 t2 b1 b2)) :: (fun g => pV b 0) :: (fun g => pV b 0) :: (fun g => pV b 0) :: (fun g => iV most) :: (fun g => bV true) :: (fun g => bV true) :: (fun g => pV b 0) :: (fun g => pV b 0) :: (fun g => pV b 2) :: (fun g => pV b 2) :: (fun g => pV lt1 0) :: (fun g => iV (t1.length : Int)) :: (fun g => pV b 0) :: (fun g => pV b 0) :: (fun g => pV b 0) :: (fun g => iV most) :: (fun g => bV (decide ((t1.length : Int) ≥ most))) :: (fun g => bV (decide ((t1.length : Int) ≥ most))) :: (fun g => bV (decide ((t1.length : Int) ≥ most))) :: []) (by kernel_rfl) (by kernel_rfl) rfl (⟨⟨⟨fun _ _ => rfl, ⟨trivial, ⟨trivial, ⟨fun _ _ => rfl, ⟨fun _ _ => rfl, ⟨fun _ _ => rfl, ⟨fun _ _ => rfl, ⟨trivial, ⟨trivial, ⟨trivial, ⟨trivial, ⟨trivial, ⟨trivial, ⟨trivial, ⟨trivial, ⟨trivial, ⟨trivial, ⟨trivial, ⟨trivial, ⟨trivial, ⟨trivial, ⟨trivial, trivial⟩⟩⟩⟩⟩⟩⟩⟩⟩⟩⟩⟩⟩⟩⟩⟩⟩⟩⟩⟩⟩⟩, ⟨trivial, trivial⟩⟩, trivial⟩) ?_ ?_
    · exact ⟨ob_val fun g w => by kernel_rfl, ob_d (ι := Nat) (l := fun g => []) (L := fun g y => [blkR y [iV 0, iV 2] 3]) (fun y => .slice (some ⟨y, 0, none⟩) 2 2) (fun g => o_lit (sz := 1) (iV 0) [iV 0, iV 2] Try.underlying59 (by kernel_rfl) (by kernel_rfl) (by kernel_rfl) (by kernel_rfl) (by kernel_rfl)) (fun g => by kernel_rfl) (fun g y _ => ⟨trivial, by kernel_rfl, by kernel_rfl⟩), ob_s (l := fun g => [arcB b lt1 lt2 lb1 lb2 most p, llR lt1 t1 n, llR lt2 t2 n, llR lb1 b1 n, llR lb2 b2 n, blkR (slOf (g 1)) [iV 0, iV 2] 3]) (l' := fun g => [arcB b lt1 lt2 lb1 lb2 most p, llR lt1 t1 n, llR lt2 t2 n, llR lb1 b1 n, llR lb2 b2 n, blkR (slOf (g 1)) [iV 0, iV 2] 3]) (v := fun g => iV (arcAll2 most p t1 t2 b1 b2)) (fun g => o_call (by kernel_rfl) Try.call37 (arc_all2 (n := n) (most := most) (p := p) (t1 := t1) (t2 := t2) (b1 := b1) (b2 := b2) (by omega))) (fun g => by kernel_rfl), ob_val fun g w => by kernel_rfl, ob_val fun g w => by kernel_rfl, ob_val fun g w => by kernel_rfl, ob_s (l := fun g => [arcB b lt1 lt2 lb1 lb2 most p]) (l' := fun g => [arcB b lt1 lt2 lb1 lb2 most p]) (v := fun g => iV most) (fun g => o_load (i := 0) (v := iV most) (by kernel_rfl) (by kernel_rfl) (by kernel_rfl)) (fun g => by kernel_rfl), ob_v (v := fun g => bV true) (fun g => OprV.re (pureV (v := bV (decide (arcAll2 most p t1 t2 b1 b2 ≥ most))) (by kernel_rfl) rfl fun w => by kernel_rfl) (vT h4)) (fun g => by kernel_rfl), ob_val fun g w => by kernel_rfl, ob_val fun g w => by kernel_rfl, ob_val fun g w => by kernel_rfl, ob_val fun g w => by kernel_rfl, ob_val fun g w => by kernel_rfl, ob_s (l := fun g => [arcB b lt1 lt2 lb1 lb2 most p]) (l' := fun g => [arcB b lt1 lt2 lb1 lb2 most p]) (v := fun g => pV lt1 0) (fun g => o_load (i := 2) (v := pV lt1 0) (by kernel_rfl) (by kernel_rfl) (by kernel_rfl)) (fun g => by kernel_rfl), ob_s (l := fun g => [llR lt1 t1 n]) (l' := fun g => [llR lt1 t1 n]) (v := fun g => iV (t1.length : Int)) (fun g => o_call (by kernel_rfl) Try.call26 (t_Len (ks := t1) (n := n))) (fun g => by kernel_rfl), ob_val fun g w => by kernel_rfl, ob_val fun g w => by kernel_rfl, ob_val fun g w => by kernel_rfl, ob_s (l := fun g => [arcB b lt1 lt2 lb1 lb2 most p]) (l' := fun g => [arcB b lt1 lt2 lb1 lb2 most p]) (v := fun g => iV most) (fun g => o_load (i := 0) (v := iV most) (by kernel_rfl) (by kernel_rfl) (by kernel_rfl)) (fun g => by kernel_rfl), ob_val fun g w => by kernel_rfl, ob_val fun g w => by kernel_rfl, ob_val fun g w => by kernel_rfl, trivial⟩
    intro g
    refine Ex'.sub (subB_spec [0, 2, 3, 4]) ?_
    refine Ex'.as [0, 1, 2, 3, 4, 6] (σ' := [(0, pV b 0), (2, sV ⟨#[]⟩), (3, bV false), (4, bV (decide ((t1.length : Int) ≥ most)))]) (Γ' := [arcB b lt1 lt2 lb1 lb2 most p, llR lt1 t1 n, llR lt2 t2 n, llR lb1 b1 n, llR lb2 b2 n, blkR (slOf (g 1)) [iV 0, iV 2] 3]) (by kernel_rfl) rfl (by kernel_rfl) (by kernel_rfl) ?_
    generalize slOf (g 1) = b6
    refine Ex'.next ?_
    refine Cd.case (p := (t1.length : Int) ≥ most) (by kernel_rfl) (fun h7 => ?_) (fun h7 => ?_)
    ·
      refine Cd.seq ?_
      refine Cd.region rfl ?_
      refine Sq.vals [0, 1, 2, 3] (rest := [4, 5, 6, 7, 8, 9]) [pV b 0, pV b 0, pV b 2, pV b 2] (fun w => by kernel_rfl) ?_
      refine Sq.same [0] (l := [arcB b lt1 lt2 lb1 lb2 most p]) (o_load (i := 2) (v := pV lt1 0) (by kernel_rfl) (by kernel_rfl) (by kernel_rfl)) (by kernel_rfl) rfl (by kernel_rfl) rfl ?_
      refine Sq.same [1] (l := [llR lt1 t1 n]) (o_call (by kernel_rfl) Try.call38 (t_Pop (ks := t1) (n := n) (by omega))) (by kernel_rfl) rfl (by kernel_rfl) rfl ?_
      refine Sq.vals [6, 7, 8, 9] (rest := []) [sV (t1.getLast?.getD ⟨#[]⟩), bV (decide (0 < t1.length)), sV (t1.getLast?.getD ⟨#[]⟩), bV (decide (0 < t1.length))] (fun w => by kernel_rfl) ?_
      refine Sq.done ?_
      refine Ex'.next ?_
      refine Cd.ret ?_
      refine Ex'.blockRet ?_
      refine Ex'.thenRet ?_
      refine Ex'.ret Try.results28 (RVs.tmp (v := sV (t1.getLast?.getD ⟨#[]⟩)) (by kernel_rfl) (RVs.tmp (v := bV (decide (0 < t1.length))) (by kernel_rfl) (RVs.nil))) (fun w hw => ?_)
      have e : arcFresh most p t1 t2 b1 b2 = (t1.dropLast, t2, b1, b2, t1.getLast?.getD ⟨#[]⟩, decide (0 < t1.length)) := by unfold arcFresh; rw [if_pos h4, if_pos h7]
      rw [e]
      exact ⟨_, ⟨rfl, rfl⟩, ((((hw.conv 1 (R := llR lt1 t1.dropLast n) (R' := llR lt1 t1.dropLast n') (by kernel_rfl) (llR.up (by omega))).conv 2 (R := llR lt2 t2 n) (R' := llR lt2 t2 n') (by kernel_rfl) (llR.up (by omega))).conv 3 (R := llR lb1 b1 n) (R' := llR lb1 b1 n') (by kernel_rfl) (llR.up (by omega))).conv 4 (R := llR lb2 b2 n) (R' := llR lb2 b2 n') (by kernel_rfl) (llR.up (by omega))).pickB [0, 1, 2, 3, 4] (by kernel_rfl) (by kernel_rfl) (by kernel_rfl)⟩
    ·
      refine Cd.seq ?_
      refine Cd.plan [0, 0, 3, 0, 8, 24, 56, 127, 255] [(2, [(0, false, 0), (1, false, 0), (2, false, 0), (3, false, 0), (4, false, 0), (7, false, 2)]), (6, [(0, false, 0)])] [1] [(1, fun _ => True)] [(7, 1, fun g => blkR (slOf (g 1)) [iV 0, iV 2] 3)] [fun g => pV b 0, fun g => .slice (some ⟨(slOf (g 1)), 0, none⟩) 2 2, fun g => iV (arcAll2 most p t1 t2 b1 b2), fun g => pV b 0, fun g => pV b 0, fun g => pV b 0, fun g => iV most, fun g => bV true, fun g => bV true] (by kernel_rfl) (by kernel_rfl) rfl (⟨⟨⟨fun _ _ => rfl, ⟨trivial, ⟨trivial, ⟨fun _ _ => rfl, ⟨fun _ _ => rfl, ⟨fun _ _ => rfl, ⟨fun _ _ => rfl, ⟨trivial, ⟨trivial, trivial⟩⟩⟩⟩⟩⟩⟩⟩⟩, ⟨trivial, trivial⟩⟩, trivial⟩) ?_ ?_
      · exact ⟨ob_val fun g w => by kernel_rfl, ob_d (ι := Nat) (l := fun g => []) (L := fun g y => [blkR y [iV 0, iV 2] 3]) (fun y => .slice (some ⟨y, 0, none⟩) 2 2) (fun g => o_lit (sz := 1) (iV 0) [iV 0, iV 2] Try.underlying59 (by kernel_rfl) (by kernel_rfl) (by kernel_rfl) (by kernel_rfl) (by kernel_rfl)) (fun g => by kernel_rfl) (fun g y _ => ⟨trivial, by kernel_rfl, by kernel_rfl⟩), ob_s (l := fun g => [arcB b lt1 lt2 lb1 lb2 most p, llR lt1 t1 n, llR lt2 t2 n, llR lb1 b1 n, llR lb2 b2 n, blkR (slOf (g 1)) [iV 0, iV 2] 3]) (l' := fun g => [arcB b lt1 lt2 lb1 lb2 most p, llR lt1 t1 n, llR lt2 t2 n, llR lb1 b1 n, llR lb2 b2 n, blkR (slOf (g 1)) [iV 0, iV 2] 3]) (v := fun g => iV (arcAll2 most p t1 t2 b1 b2)) (fun g => o_call (by kernel_rfl) Try.call37 (arc_all2 (n := n) (most := most) (p := p) (t1 := t1) (t2 := t2) (b1 := b1) (b2 := b2) (by omega))) (fun g => by kernel_rfl), ob_val fun g w => by kernel_rfl, ob_val fun g w => by kernel_rfl, ob_val fun g w => by kernel_rfl, ob_s (l := fun g => [arcB b lt1 lt2 lb1 lb2 most p]) (l' := fun g => [arcB b lt1 lt2 lb1 lb2 most p]) (v := fun g => iV most) (fun g => o_load (i := 0) (v := iV most) (by kernel_rfl) (by kernel_rfl) (by kernel_rfl)) (fun g => by kernel_rfl), ob_v (v := fun g => bV true) (fun g => OprV.re (pureV (v := bV (decide (arcAll2 most p t1 t2 b1 b2 ≥ most))) (by kernel_rfl) rfl fun w => by kernel_rfl) (vT h4)) (fun g => by kernel_rfl), ob_val fun g w => by kernel_rfl, trivial⟩
      intro g
      refine Ex'.sub (subB_spec [0, 2, 3, 34]) ?_
      refine Ex'.as [0, 1, 2, 3, 4, 5, 7] (σ' := [(0, pV b 0), (2, sV ⟨#[]⟩), (3, bV false), (34, bV true)]) (Γ' := [arcB b lt1 lt2 lb1 lb2 most p, llR lt1 t1 n, llR lt2 t2 n, llR lb1 b1 n, llR lb2 b2 n, blkR b6 [iV 0, iV 2] 3, blkR (slOf (g 1)) [iV 0, iV 2] 3]) (by kernel_rfl) rfl (by kernel_rfl) (by kernel_rfl) ?_
      generalize slOf (g 1) = b9
      refine Ex'.next ?_
      refine Cd.condT (by kernel_rfl) ?_
      refine Cd.region rfl ?_
      refine Sq.vals [0, 1, 2, 3] (rest := [4, 5]) [pV b 0, pV b 0, pV b 2, pV b 4] (fun w => by kernel_rfl) ?_
      refine Sq.same [0] (l := [arcB b lt1 lt2 lb1 lb2 most p]) (o_load (i := 4) (v := pV lb1 0) (by kernel_rfl) (by kernel_rfl) (by kernel_rfl)) (by kernel_rfl) rfl (by kernel_rfl) rfl ?_
      refine Sq.same [3] (l := [llR lb1 b1 n]) (o_call (by kernel_rfl) Try.call38 (t_Pop (ks := b1) (n := n) (by omega))) (by kernel_rfl) rfl (by kernel_rfl) rfl ?_
      refine Sq.done ?_
      refine Ex'.blockNormal ?_
      refine Ex'.next ?_
      refine Cd.seq ?_
      refine Cd.region rfl ?_
      refine Sq.vals [0] (rest := [1, 2, 3, 4, 5]) [pV b 0] (fun w => by kernel_rfl) ?_
      refine Sq.same [0, 1, 2, 3, 4] (l := arcL b lt1 lt2 lb1 lb2 most p t1 t2 b1.dropLast b2 n) (o_call (by kernel_rfl) Try.call27 (arc_roomF (n := n) (n' := n + 1) (most := most) (p := p) (t1 := t1) (t2 := t2) (b1 := b1.dropLast) (b2 := b2) (by omega) (by omega))) (by kernel_rfl) rfl (by kernel_rfl) rfl ?_
      refine Sq.vals [2, 3, 4, 5] (rest := []) [sV ((arcRoomF most p t1 t2 b1.dropLast b2).2.2.2.2.1), bV ((arcRoomF most p t1 t2 b1.dropLast b2).2.2.2.2.2), sV ((arcRoomF most p t1 t2 b1.dropLast b2).2.2.2.2.1), bV ((arcRoomF most p t1 t2 b1.dropLast b2).2.2.2.2.2)] (fun w => by kernel_rfl) ?_
      refine Sq.done ?_
      refine Ex'.next ?_
      refine Cd.ret ?_
      refine Ex'.ret Try.results28 (RVs.tmp (v := sV ((arcRoomF most p t1 t2 b1.dropLast b2).2.2.2.2.1)) (by kernel_rfl) (RVs.tmp (v := bV ((arcRoomF most p t1 t2 b1.dropLast b2).2.2.2.2.2)) (by kernel_rfl) (RVs.nil))) (fun w hw => ?_)
      have e : arcFresh most p t1 t2 b1 b2 = ((arcRoomF most p t1 t2 b1.dropLast b2).1, (arcRoomF most p t1 t2 b1.dropLast b2).2.1, (arcRoomF most p t1 t2 b1.dropLast b2).2.2.1, (arcRoomF most p t1 t2 b1.dropLast b2).2.2.2.1, (arcRoomF most p t1 t2 b1.dropLast b2).2.2.2.2.1, (arcRoomF most p t1 t2 b1.dropLast b2).2.2.2.2.2) := by unfold arcFresh; rw [if_pos h4, if_neg h7]
      rw [e]
      exact ⟨_, ⟨rfl, rfl⟩, ((((hw.conv 1 (R := llR lt1 ((arcRoomF most p t1 t2 b1.dropLast b2).1) (n + 1)) (R' := llR lt1 ((arcRoomF most p t1 t2 b1.dropLast b2).1) n') (by kernel_rfl) (llR.up (by omega))).conv 2 (R := llR lt2 ((arcRoomF most p t1 t2 b1.dropLast b2).2.1) (n + 1)) (R' := llR lt2 ((arcRoomF most p t1 t2 b1.dropLast b2).2.1) n') (by kernel_rfl) (llR.up (by omega))).conv 3 (R := llR lb1 ((arcRoomF most p t1 t2 b1.dropLast b2).2.2.1) (n + 1)) (R' := llR lb1 ((arcRoomF most p t1 t2 b1.dropLast b2).2.2.1) n') (by kernel_rfl) (llR.up (by omega))).conv 4 (R := llR lb2 ((arcRoomF most p t1 t2 b1.dropLast b2).2.2.2.1) (n + 1)) (R' := llR lb2 ((arcRoomF most p t1 t2 b1.dropLast b2).2.2.2.1) n') (by kernel_rfl) (llR.up (by omega))).pickB [0, 1, 2, 3, 4] (by kernel_rfl) (by kernel_rfl) (by kernel_rfl)⟩
  ·
    refine Cd.plan (0 :: 0 :: 3 :: 0 :: 8 :: 24 :: 56 :: 127 :: 255 :: 511 :: 1023 :: 2047 :: 4095 :: 8191 :: 16383 :: 511 :: 33279 :: 98815 :: 229887 :: 524287 :: 1048575 :: 2097151 :: []) [(2, [(0, false, 0), (1, false, 0), (2, false, 0), (3, false, 0), (4, false, 0), (6, false, 2)]), (6, [(0, false, 0)])] [1] [(1, fun _ => True)] [(6, 1, fun g => blkR (slOf (g 1)) [iV 0, iV 2] 3)] ((fun g => pV b 0) :: (fun g => .slice (some ⟨(slOf (g 1)), 0, none⟩) 2 2) :: (fun g => iV (arcAll2 most p t1 t2 b1 b2)) :: (fun g => pV b 0) :: (fun g => pV b 0) :: (fun g => pV b 0) :: (fun g => iV most) :: (fun g => bV false) :: (fun g => bV false) :: (fun g => undef) :: (fun g => undef) :: (fun g => undef) :: (fun g => undef) :: (fun g => undef) :: (fun g => undef) :: (fun g => undef) :: (fun g => undef) :: (fun g => undef) :: (fun g => undef) :: (fun g => undef) :: (fun g => bV false) :: (fun g => bV false) :: []) (by kernel_rfl) (by kernel_rfl) rfl (⟨⟨⟨fun _ _ => rfl, ⟨trivial, ⟨trivial, ⟨fun _ _ => rfl, ⟨fun _ _ => rfl, ⟨fun _ _ => rfl, ⟨fun _ _ => rfl, ⟨trivial, ⟨trivial, ⟨trivial, ⟨trivial, ⟨trivial, ⟨trivial, ⟨trivial, ⟨trivial, ⟨trivial, ⟨trivial, ⟨trivial, ⟨trivial, ⟨trivial, ⟨trivial, ⟨trivial, trivial⟩⟩⟩⟩⟩⟩⟩⟩⟩⟩⟩⟩⟩⟩⟩⟩⟩⟩⟩⟩⟩⟩, ⟨trivial, trivial⟩⟩, trivial⟩) ?_ ?_
    · exact ⟨ob_val fun g w => by kernel_rfl, ob_d (ι := Nat) (l := fun g => []) (L := fun g y => [blkR y [iV 0, iV 2] 3]) (fun y => .slice (some ⟨y, 0, none⟩) 2 2) (fun g => o_lit (sz := 1) (iV 0) [iV 0, iV 2] Try.underlying59 (by kernel_rfl) (by kernel_rfl) (by kernel_rfl) (by kernel_rfl) (by kernel_rfl)) (fun g => by kernel_rfl) (fun g y _ => ⟨trivial, by kernel_rfl, by kernel_rfl⟩), ob_s (l := fun g => [arcB b lt1 lt2 lb1 lb2 most p, llR lt1 t1 n, llR lt2 t2 n, llR lb1 b1 n, llR lb2 b2 n, blkR (slOf (g 1)) [iV 0, iV 2] 3]) (l' := fun g => [arcB b lt1 lt2 lb1 lb2 most p, llR lt1 t1 n, llR lt2 t2 n, llR lb1 b1 n, llR lb2 b2 n, blkR (slOf (g 1)) [iV 0, iV 2] 3]) (v := fun g => iV (arcAll2 most p t1 t2 b1 b2)) (fun g => o_call (by kernel_rfl) Try.call37 (arc_all2 (n := n) (most := most) (p := p) (t1 := t1) (t2 := t2) (b1 := b1) (b2 := b2) (by omega))) (fun g => by kernel_rfl), ob_val fun g w => by kernel_rfl, ob_val fun g w => by kernel_rfl, ob_val fun g w => by kernel_rfl, ob_s (l := fun g => [arcB b lt1 lt2 lb1 lb2 most p]) (l' := fun g => [arcB b lt1 lt2 lb1 lb2 most p]) (v := fun g => iV most) (fun g => o_load (i := 0) (v := iV most) (by kernel_rfl) (by kernel_rfl) (by kernel_rfl)) (fun g => by kernel_rfl), ob_v (v := fun g => bV false) (fun g => OprV.re (pureV (v := bV (decide (arcAll2 most p t1 t2 b1 b2 ≥ most))) (by kernel_rfl) rfl fun w => by kernel_rfl) (vF h4)) (fun g => by kernel_rfl), ob_val fun g w => by kernel_rfl, ob_val fun g w => by kernel_rfl, ob_val fun g w => by kernel_rfl, ob_val fun g w => by kernel_rfl, ob_val fun g w => by kernel_rfl, ob_val fun g w => by kernel_rfl, ob_val fun g w => by kernel_rfl, ob_val fun g w => by kernel_rfl, ob_val fun g w => by kernel_rfl, ob_val fun g w => by kernel_rfl, ob_val fun g w => by kernel_rfl, ob_val fun g w => by kernel_rfl, ob_val fun g w => by kernel_rfl, ob_val fun g w => by kernel_rfl, trivial⟩
    intro g
    refine Ex'.sub (subB_spec [0, 2, 3, 4]) ?_
    refine Ex'.as [0, 1, 2, 3, 4, 6] (σ' := [(0, pV b 0), (2, sV ⟨#[]⟩), (3, bV false), (4, bV false)]) (Γ' := [arcB b lt1 lt2 lb1 lb2 most p, llR lt1 t1 n, llR lt2 t2 n, llR lb1 b1 n, llR lb2 b2 n, blkR (slOf (g 1)) [iV 0, iV 2] 3]) (by kernel_rfl) rfl (by kernel_rfl) (by kernel_rfl) ?_
    generalize slOf (g 1) = b11
    refine Ex'.next ?_
    refine Cd.condF (by kernel_rfl) ?_
    refine Cd.seq ?_
    refine Cd.plan [0, 0, 3, 0, 8, 24, 56, 127, 255] [(2, [(0, false, 0), (1, false, 0), (2, false, 0), (3, false, 0), (4, false, 0), (7, false, 2)]), (6, [(0, false, 0)])] [1] [(1, fun _ => True)] [(7, 1, fun g => blkR (slOf (g 1)) [iV 0, iV 2] 3)] [fun g => pV b 0, fun g => .slice (some ⟨(slOf (g 1)), 0, none⟩) 2 2, fun g => iV (arcAll2 most p t1 t2 b1 b2), fun g => pV b 0, fun g => pV b 0, fun g => pV b 0, fun g => iV most, fun g => bV false, fun g => bV false] (by kernel_rfl) (by kernel_rfl) rfl (⟨⟨⟨fun _ _ => rfl, ⟨trivial, ⟨trivial, ⟨fun _ _ => rfl, ⟨fun _ _ => rfl, ⟨fun _ _ => rfl, ⟨fun _ _ => rfl, ⟨trivial, ⟨trivial, trivial⟩⟩⟩⟩⟩⟩⟩⟩⟩, ⟨trivial, trivial⟩⟩, trivial⟩) ?_ ?_
    · exact ⟨ob_val fun g w => by kernel_rfl, ob_d (ι := Nat) (l := fun g => []) (L := fun g y => [blkR y [iV 0, iV 2] 3]) (fun y => .slice (some ⟨y, 0, none⟩) 2 2) (fun g => o_lit (sz := 1) (iV 0) [iV 0, iV 2] Try.underlying59 (by kernel_rfl) (by kernel_rfl) (by kernel_rfl) (by kernel_rfl) (by kernel_rfl)) (fun g => by kernel_rfl) (fun g y _ => ⟨trivial, by kernel_rfl, by kernel_rfl⟩), ob_s (l := fun g => [arcB b lt1 lt2 lb1 lb2 most p, llR lt1 t1 n, llR lt2 t2 n, llR lb1 b1 n, llR lb2 b2 n, blkR (slOf (g 1)) [iV 0, iV 2] 3]) (l' := fun g => [arcB b lt1 lt2 lb1 lb2 most p, llR lt1 t1 n, llR lt2 t2 n, llR lb1 b1 n, llR lb2 b2 n, blkR (slOf (g 1)) [iV 0, iV 2] 3]) (v := fun g => iV (arcAll2 most p t1 t2 b1 b2)) (fun g => o_call (by kernel_rfl) Try.call37 (arc_all2 (n := n) (most := most) (p := p) (t1 := t1) (t2 := t2) (b1 := b1) (b2 := b2) (by omega))) (fun g => by kernel_rfl), ob_val fun g w => by kernel_rfl, ob_val fun g w => by kernel_rfl, ob_val fun g w => by kernel_rfl, ob_s (l := fun g => [arcB b lt1 lt2 lb1 lb2 most p]) (l' := fun g => [arcB b lt1 lt2 lb1 lb2 most p]) (v := fun g => iV most) (fun g => o_load (i := 0) (v := iV most) (by kernel_rfl) (by kernel_rfl) (by kernel_rfl)) (fun g => by kernel_rfl), ob_v (v := fun g => bV false) (fun g => OprV.re (pureV (v := bV (decide (arcAll2 most p t1 t2 b1 b2 ≥ most))) (by kernel_rfl) rfl fun w => by kernel_rfl) (vF h4)) (fun g => by kernel_rfl), ob_val fun g w => by kernel_rfl, trivial⟩
    intro g
    refine Ex'.sub (subB_spec [0, 2, 3, 34]) ?_
    refine Ex'.as [0, 1, 2, 3, 4, 5, 7] (σ' := [(0, pV b 0), (2, sV ⟨#[]⟩), (3, bV false), (34, bV false)]) (Γ' := [arcB b lt1 lt2 lb1 lb2 most p, llR lt1 t1 n, llR lt2 t2 n, llR lb1 b1 n, llR lb2 b2 n, blkR b11 [iV 0, iV 2] 3, blkR (slOf (g 1)) [iV 0, iV 2] 3]) (by kernel_rfl) rfl (by kernel_rfl) (by kernel_rfl) ?_
    generalize slOf (g 1) = b13
    refine Ex'.next ?_
    refine Cd.condF (by kernel_rfl) ?_
    refine Cd.seq ?_
    refine Cd.plan [0, 0, 3, 0, 8, 24, 56, 127, 0, 256, 768, 1792, 4095, 8191] [(2, [(0, false, 0), (1, false, 0), (2, false, 0), (3, false, 0), (4, false, 0), (8, false, 2)]), (6, [(0, false, 0)]), (11, [(0, false, 0)])] [1] [(1, fun _ => True)] [(8, 1, fun g => blkR (slOf (g 1)) [iV 0, iV 1, iV 2, iV 3] 3)] [fun g => pV b 0, fun g => .slice (some ⟨(slOf (g 1)), 0, none⟩) 4 4, fun g => iV (arcAll4 most p t1 t2 b1 b2), fun g => pV b 0, fun g => pV b 0, fun g => pV b 0, fun g => iV most, fun g => iV ((arcAll4 most p t1 t2 b1 b2) - most), fun g => pV b 0, fun g => pV b 0, fun g => pV b 0, fun g => iV most, fun g => bV (decide ((arcAll4 most p t1 t2 b1 b2) - most ≥ most)), fun g => bV (decide ((arcAll4 most p t1 t2 b1 b2) - most ≥ most))] (by kernel_rfl) (by kernel_rfl) rfl (⟨⟨⟨fun _ _ => rfl, ⟨trivial, ⟨trivial, ⟨fun _ _ => rfl, ⟨fun _ _ => rfl, ⟨fun _ _ => rfl, ⟨fun _ _ => rfl, ⟨trivial, ⟨fun _ _ => rfl, ⟨fun _ _ => rfl, ⟨fun _ _ => rfl, ⟨fun _ _ => rfl, ⟨trivial, ⟨trivial, trivial⟩⟩⟩⟩⟩⟩⟩⟩⟩⟩⟩⟩⟩⟩, ⟨trivial, trivial⟩⟩, trivial⟩) ?_ ?_
    · exact ⟨ob_val fun g w => by kernel_rfl, ob_d (ι := Nat) (l := fun g => []) (L := fun g y => [blkR y [iV 0, iV 1, iV 2, iV 3] 3]) (fun y => .slice (some ⟨y, 0, none⟩) 4 4) (fun g => o_lit (sz := 1) (iV 0) [iV 0, iV 1, iV 2, iV 3] Try.underlying59 (by kernel_rfl) (by kernel_rfl) (by kernel_rfl) (by kernel_rfl) (by kernel_rfl)) (fun g => by kernel_rfl) (fun g y _ => ⟨trivial, by kernel_rfl, by kernel_rfl⟩), ob_s (l := fun g => [arcB b lt1 lt2 lb1 lb2 most p, llR lt1 t1 n, llR lt2 t2 n, llR lb1 b1 n, llR lb2 b2 n, blkR (slOf (g 1)) [iV 0, iV 1, iV 2, iV 3] 3]) (l' := fun g => [arcB b lt1 lt2 lb1 lb2 most p, llR lt1 t1 n, llR lt2 t2 n, llR lb1 b1 n, llR lb2 b2 n, blkR (slOf (g 1)) [iV 0, iV 1, iV 2, iV 3] 3]) (v := fun g => iV (arcAll4 most p t1 t2 b1 b2)) (fun g => o_call (by kernel_rfl) Try.call37 (arc_all4 (n := n) (most := most) (p := p) (t1 := t1) (t2 := t2) (b1 := b1) (b2 := b2) (by omega))) (fun g => by kernel_rfl), ob_val fun g w => by kernel_rfl, ob_val fun g w => by kernel_rfl, ob_val fun g w => by kernel_rfl, ob_s (l := fun g => [arcB b lt1 lt2 lb1 lb2 most p]) (l' := fun g => [arcB b lt1 lt2 lb1 lb2 most p]) (v := fun g => iV most) (fun g => o_load (i := 0) (v := iV most) (by kernel_rfl) (by kernel_rfl) (by kernel_rfl)) (fun g => by kernel_rfl), ob_v (v := fun g => iV ((arcAll4 most p t1 t2 b1 b2) - most)) (fun g => o_sub (k := .i64) (a := arcAll4 most p t1 t2 b1 b2) (b := most) (c := (arcAll4 most p t1 t2 b1 b2) - most) (by kernel_rfl) (by kernel_rfl) (w64 rfl (by omega))) (fun g => by kernel_rfl), ob_val fun g w => by kernel_rfl, ob_val fun g w => by kernel_rfl, ob_val fun g w => by kernel_rfl, ob_s (l := fun g => [arcB b lt1 lt2 lb1 lb2 most p]) (l' := fun g => [arcB b lt1 lt2 lb1 lb2 most p]) (v := fun g => iV most) (fun g => o_load (i := 0) (v := iV most) (by kernel_rfl) (by kernel_rfl) (by kernel_rfl)) (fun g => by kernel_rfl), ob_val fun g w => by kernel_rfl, ob_val fun g w => by kernel_rfl, trivial⟩
    intro g
    refine Ex'.sub (subB_spec [0, 2, 3, 49]) ?_
    refine Ex'.as [0, 1, 2, 3, 4, 5, 6, 8] (σ' := [(0, pV b 0), (2, sV ⟨#[]⟩), (3, bV false), (49, bV (decide ((arcAll4 most p t1 t2 b1 b2) - most ≥ most)))]) (Γ' := [arcB b lt1 lt2 lb1 lb2 most p, llR lt1 t1 n, llR lt2 t2 n, llR lb1 b1 n, llR lb2 b2 n, blkR b11 [iV 0, iV 2] 3, blkR b13 [iV 0, iV 2] 3, blkR (slOf (g 1)) [iV 0, iV 1, iV 2, iV 3] 3]) (by kernel_rfl) rfl (by kernel_rfl) (by kernel_rfl) ?_
    generalize slOf (g 1) = b15
    refine Ex'.next ?_
    refine Cd.case (p := (arcAll4 most p t1 t2 b1 b2) - most ≥ most) (by kernel_rfl) (fun h16 => ?_) (fun h16 => ?_)
    ·
      refine Cd.region rfl ?_
      refine Sq.vals [0, 1, 2, 3] (rest := [4, 5]) [pV b 0, pV b 0, pV b 2, pV b 5] (fun w => by kernel_rfl) ?_
      refine Sq.same [0] (l := [arcB b lt1 lt2 lb1 lb2 most p]) (o_load (i := 5) (v := pV lb2 0) (by kernel_rfl) (by kernel_rfl) (by kernel_rfl)) (by kernel_rfl) rfl (by kernel_rfl) rfl ?_
      refine Sq.same [4] (l := [llR lb2 b2 n]) (o_call (by kernel_rfl) Try.call38 (t_Pop (ks := b2) (n := n) (by omega))) (by kernel_rfl) rfl (by kernel_rfl) rfl ?_
      refine Sq.done ?_
      refine Ex'.blockNormal ?_
      refine Ex'.next ?_
      refine Cd.seq ?_
      refine Cd.region rfl ?_
      refine Sq.vals [0] (rest := [1, 2, 3, 4, 5]) [pV b 0] (fun w => by kernel_rfl) ?_
      refine Sq.same [0, 1, 2, 3, 4] (l := arcL b lt1 lt2 lb1 lb2 most p t1 t2 b1 b2.dropLast n) (o_call (by kernel_rfl) Try.call27 (arc_roomF (n := n) (n' := n + 1) (most := most) (p := p) (t1 := t1) (t2 := t2) (b1 := b1) (b2 := b2.dropLast) (by omega) (by omega))) (by kernel_rfl) rfl (by kernel_rfl) rfl ?_
      refine Sq.vals [2, 3, 4, 5] (rest := []) [sV ((arcRoomF most p t1 t2 b1 b2.dropLast).2.2.2.2.1), bV ((arcRoomF most p t1 t2 b1 b2.dropLast).2.2.2.2.2), sV ((arcRoomF most p t1 t2 b1 b2.dropLast).2.2.2.2.1), bV ((arcRoomF most p t1 t2 b1 b2.dropLast).2.2.2.2.2)] (fun w => by kernel_rfl) ?_
      refine Sq.done ?_
      refine Ex'.next ?_
      refine Cd.ret ?_
      refine Ex'.ret Try.results28 (RVs.tmp (v := sV ((arcRoomF most p t1 t2 b1 b2.dropLast).2.2.2.2.1)) (by kernel_rfl) (RVs.tmp (v := bV ((arcRoomF most p t1 t2 b1 b2.dropLast).2.2.2.2.2)) (by kernel_rfl) (RVs.nil))) (fun w hw => ?_)
      have e : arcFresh most p t1 t2 b1 b2 = ((arcRoomF most p t1 t2 b1 b2.dropLast).1, (arcRoomF most p t1 t2 b1 b2.dropLast).2.1, (arcRoomF most p t1 t2 b1 b2.dropLast).2.2.1, (arcRoomF most p t1 t2 b1 b2.dropLast).2.2.2.1, (arcRoomF most p t1 t2 b1 b2.dropLast).2.2.2.2.1, (arcRoomF most p t1 t2 b1 b2.dropLast).2.2.2.2.2) := by unfold arcFresh; rw [if_neg h4, if_pos h16]
      rw [e]
      exact ⟨_, ⟨rfl, rfl⟩, ((((hw.conv 1 (R := llR lt1 ((arcRoomF most p t1 t2 b1 b2.dropLast).1) (n + 1)) (R' := llR lt1 ((arcRoomF most p t1 t2 b1 b2.dropLast).1) n') (by kernel_rfl) (llR.up (by omega))).conv 2 (R := llR lt2 ((arcRoomF most p t1 t2 b1 b2.dropLast).2.1) (n + 1)) (R' := llR lt2 ((arcRoomF most p t1 t2 b1 b2.dropLast).2.1) n') (by kernel_rfl) (llR.up (by omega))).conv 3 (R := llR lb1 ((arcRoomF most p t1 t2 b1 b2.dropLast).2.2.1) (n + 1)) (R' := llR lb1 ((arcRoomF most p t1 t2 b1 b2.dropLast).2.2.1) n') (by kernel_rfl) (llR.up (by omega))).conv 4 (R := llR lb2 ((arcRoomF most p t1 t2 b1 b2.dropLast).2.2.2.1) (n + 1)) (R' := llR lb2 ((arcRoomF most p t1 t2 b1 b2.dropLast).2.2.2.1) n') (by kernel_rfl) (llR.up (by omega))).pickB [0, 1, 2, 3, 4] (by kernel_rfl) (by kernel_rfl) (by kernel_rfl)⟩
    ·
      refine Cd.seq ?_
      refine Cd.plan [0, 0, 3, 0, 8, 24, 56, 127, 255] [(2, [(0, false, 0), (1, false, 0), (2, false, 0), (3, false, 0), (4, false, 0), (9, false, 2)]), (6, [(0, false, 0)])] [1] [(1, fun _ => True)] [(9, 1, fun g => blkR (slOf (g 1)) [iV 0, iV 1, iV 2, iV 3] 3)] [fun g => pV b 0, fun g => .slice (some ⟨(slOf (g 1)), 0, none⟩) 4 4, fun g => iV (arcAll4 most p t1 t2 b1 b2), fun g => pV b 0, fun g => pV b 0, fun g => pV b 0, fun g => iV most, fun g => bV (decide (arcAll4 most p t1 t2 b1 b2 < most)), fun g => bV (decide (arcAll4 most p t1 t2 b1 b2 < most))] (by kernel_rfl) (by kernel_rfl) rfl (⟨⟨⟨fun _ _ => rfl, ⟨trivial, ⟨trivial, ⟨fun _ _ => rfl, ⟨fun _ _ => rfl, ⟨fun _ _ => rfl, ⟨fun _ _ => rfl, ⟨trivial, ⟨trivial, trivial⟩⟩⟩⟩⟩⟩⟩⟩⟩, ⟨trivial, trivial⟩⟩, trivial⟩) ?_ ?_
      · exact ⟨ob_val fun g w => by kernel_rfl, ob_d (ι := Nat) (l := fun g => []) (L := fun g y => [blkR y [iV 0, iV 1, iV 2, iV 3] 3]) (fun y => .slice (some ⟨y, 0, none⟩) 4 4) (fun g => o_lit (sz := 1) (iV 0) [iV 0, iV 1, iV 2, iV 3] Try.underlying59 (by kernel_rfl) (by kernel_rfl) (by kernel_rfl) (by kernel_rfl) (by kernel_rfl)) (fun g => by kernel_rfl) (fun g y _ => ⟨trivial, by kernel_rfl, by kernel_rfl⟩), ob_s (l := fun g => [arcB b lt1 lt2 lb1 lb2 most p, llR lt1 t1 n, llR lt2 t2 n, llR lb1 b1 n, llR lb2 b2 n, blkR (slOf (g 1)) [iV 0, iV 1, iV 2, iV 3] 3]) (l' := fun g => [arcB b lt1 lt2 lb1 lb2 most p, llR lt1 t1 n, llR lt2 t2 n, llR lb1 b1 n, llR lb2 b2 n, blkR (slOf (g 1)) [iV 0, iV 1, iV 2, iV 3] 3]) (v := fun g => iV (arcAll4 most p t1 t2 b1 b2)) (fun g => o_call (by kernel_rfl) Try.call37 (arc_all4 (n := n) (most := most) (p := p) (t1 := t1) (t2 := t2) (b1 := b1) (b2 := b2) (by omega))) (fun g => by kernel_rfl), ob_val fun g w => by kernel_rfl, ob_val fun g w => by kernel_rfl, ob_val fun g w => by kernel_rfl, ob_s (l := fun g => [arcB b lt1 lt2 lb1 lb2 most p]) (l' := fun g => [arcB b lt1 lt2 lb1 lb2 most p]) (v := fun g => iV most) (fun g => o_load (i := 0) (v := iV most) (by kernel_rfl) (by kernel_rfl) (by kernel_rfl)) (fun g => by kernel_rfl), ob_val fun g w => by kernel_rfl, ob_val fun g w => by kernel_rfl, trivial⟩
      intro g
      refine Ex'.sub (subB_spec [0, 2, 3, 69]) ?_
      refine Ex'.as [0, 1, 2, 3, 4, 5, 6, 7, 9] (σ' := [(0, pV b 0), (2, sV ⟨#[]⟩), (3, bV false), (69, bV (decide (arcAll4 most p t1 t2 b1 b2 < most)))]) (Γ' := [arcB b lt1 lt2 lb1 lb2 most p, llR lt1 t1 n, llR lt2 t2 n, llR lb1 b1 n, llR lb2 b2 n, blkR b11 [iV 0, iV 2] 3, blkR b13 [iV 0, iV 2] 3, blkR b15 [iV 0, iV 1, iV 2, iV 3] 3, blkR (slOf (g 1)) [iV 0, iV 1, iV 2, iV 3] 3]) (by kernel_rfl) rfl (by kernel_rfl) (by kernel_rfl) ?_
      generalize slOf (g 1) = b18
      refine Ex'.next ?_
      refine Cd.case (p := arcAll4 most p t1 t2 b1 b2 < most) (by kernel_rfl) (fun h19 => ?_) (fun h19 => ?_)
      ·
        refine Cd.seq ?_
        refine Cd.region rfl ?_
        refine Sq.vals [0, 1] (rest := []) [sV ⟨#[]⟩, bV false] (fun w => by kernel_rfl) ?_
        refine Sq.done ?_
        refine Ex'.next ?_
        refine Cd.ret ?_
        refine Ex'.blockRet ?_
        refine Ex'.thenRet ?_
        refine Ex'.ret Try.results28 (RVs.tmp (v := sV ⟨#[]⟩) (by kernel_rfl) (RVs.tmp (v := bV false) (by kernel_rfl) (RVs.nil))) (fun w hw => ?_)
        have e : arcFresh most p t1 t2 b1 b2 = (t1, t2, b1, b2, ⟨#[]⟩, false) := by unfold arcFresh; rw [if_neg h4, if_neg h16, if_pos h19]
        rw [e]
        exact ⟨_, ⟨rfl, rfl⟩, ((((hw.conv 1 (R := llR lt1 t1 n) (R' := llR lt1 t1 n') (by kernel_rfl) (llR.up (by omega))).conv 2 (R := llR lt2 t2 n) (R' := llR lt2 t2 n') (by kernel_rfl) (llR.up (by omega))).conv 3 (R := llR lb1 b1 n) (R' := llR lb1 b1 n') (by kernel_rfl) (llR.up (by omega))).conv 4 (R := llR lb2 b2 n) (R' := llR lb2 b2 n') (by kernel_rfl) (llR.up (by omega))).pickB [0, 1, 2, 3, 4] (by kernel_rfl) (by kernel_rfl) (by kernel_rfl)⟩
      ·
        refine Cd.skip ?_
        refine Ex'.blockNormal ?_
        refine Ex'.next ?_
        refine Cd.seq ?_
        refine Cd.region rfl ?_
        refine Sq.vals [0] (rest := [1, 2, 3, 4, 5]) [pV b 0] (fun w => by kernel_rfl) ?_
        refine Sq.same [0, 1, 2, 3, 4] (l := arcL b lt1 lt2 lb1 lb2 most p t1 t2 b1 b2 n) (o_call (by kernel_rfl) Try.call27 (arc_roomF (n := n) (n' := n + 1) (most := most) (p := p) (t1 := t1) (t2 := t2) (b1 := b1) (b2 := b2) (by omega) (by omega))) (by kernel_rfl) rfl (by kernel_rfl) rfl ?_
        refine Sq.vals [2, 3, 4, 5] (rest := []) [sV ((arcRoomF most p t1 t2 b1 b2).2.2.2.2.1), bV ((arcRoomF most p t1 t2 b1 b2).2.2.2.2.2), sV ((arcRoomF most p t1 t2 b1 b2).2.2.2.2.1), bV ((arcRoomF most p t1 t2 b1 b2).2.2.2.2.2)] (fun w => by kernel_rfl) ?_
        refine Sq.done ?_
        refine Ex'.next ?_
        refine Cd.ret ?_
        refine Ex'.ret Try.results28 (RVs.tmp (v := sV ((arcRoomF most p t1 t2 b1 b2).2.2.2.2.1)) (by kernel_rfl) (RVs.tmp (v := bV ((arcRoomF most p t1 t2 b1 b2).2.2.2.2.2)) (by kernel_rfl) (RVs.nil))) (fun w hw => ?_)
        have e : arcFresh most p t1 t2 b1 b2 = ((arcRoomF most p t1 t2 b1 b2).1, (arcRoomF most p t1 t2 b1 b2).2.1, (arcRoomF most p t1 t2 b1 b2).2.2.1, (arcRoomF most p t1 t2 b1 b2).2.2.2.1, (arcRoomF most p t1 t2 b1 b2).2.2.2.2.1, (arcRoomF most p t1 t2 b1 b2).2.2.2.2.2) := by unfold arcFresh; rw [if_neg h4, if_neg h16, if_neg h19]
        rw [e]
        exact ⟨_, ⟨rfl, rfl⟩, ((((hw.conv 1 (R := llR lt1 ((arcRoomF most p t1 t2 b1 b2).1) (n + 1)) (R' := llR lt1 ((arcRoomF most p t1 t2 b1 b2).1) n') (by kernel_rfl) (llR.up (by omega))).conv 2 (R := llR lt2 ((arcRoomF most p t1 t2 b1 b2).2.1) (n + 1)) (R' := llR lt2 ((arcRoomF most p t1 t2 b1 b2).2.1) n') (by kernel_rfl) (llR.up (by omega))).conv 3 (R := llR lb1 ((arcRoomF most p t1 t2 b1 b2).2.2.1) (n + 1)) (R' := llR lb1 ((arcRoomF most p t1 t2 b1 b2).2.2.1) n') (by kernel_rfl) (llR.up (by omega))).conv 4 (R := llR lb2 ((arcRoomF most p t1 t2 b1 b2).2.2.2.1) (n + 1)) (R' := llR lb2 ((arcRoomF most p t1 t2 b1 b2).2.2.2.1) n') (by kernel_rfl) (llR.up (by omega))).pickB [0, 1, 2, 3, 4] (by kernel_rfl) (by kernel_rfl) (by kernel_rfl)⟩

def arcReq (most : Int) (p : Int) (t1 : List ByteArray) (t2 : List ByteArray) (b1 : List ByteArray) (b2 : List ByteArray) (key : ByteArray) : Int × List ByteArray × List ByteArray × List ByteArray × List ByteArray × Bool × ByteArray × Bool :=
  if key ∈ t1 then if most = 0 then (p, t1, t2, b1, b2, true, ⟨#[]⟩, false) else (p, rm t1 key, fr t2 key, b1, b2, true, ⟨#[]⟩, false) else if key ∈ t2 then if most = 0 then (p, t1, t2, b1, b2, true, ⟨#[]⟩, false) else (p, t1, fr (rm t2 key) key, b1, b2, true, ⟨#[]⟩, false) else if key ∈ b1 then if most = 0 then (p, t1, t2, b1, b2, false, ⟨#[]⟩, false) else ((if p + (if (b2.length : Int) / (b1.length : Int) > 1 then (b2.length : Int) / (b1.length : Int) else 1) < most then p + (if (b2.length : Int) / (b1.length : Int) > 1 then (b2.length : Int) / (b1.length : Int) else 1) else most), (arcRoomF most (if p + (if (b2.length : Int) / (b1.length : Int) > 1 then (b2.length : Int) / (b1.length : Int) else 1) < most then p + (if (b2.length : Int) / (b1.length : Int) > 1 then (b2.length : Int) / (b1.length : Int) else 1) else most) t1 t2 b1 b2).1, fr ((arcRoomF most (if p + (if (b2.length : Int) / (b1.length : Int) > 1 then (b2.length : Int) / (b1.length : Int) else 1) < most then p + (if (b2.length : Int) / (b1.length : Int) > 1 then (b2.length : Int) / (b1.length : Int) else 1) else most) t1 t2 b1 b2).2.1) key, rm ((arcRoomF most (if p + (if (b2.length : Int) / (b1.length : Int) > 1 then (b2.length : Int) / (b1.length : Int) else 1) < most then p + (if (b2.length : Int) / (b1.length : Int) > 1 then (b2.length : Int) / (b1.length : Int) else 1) else most) t1 t2 b1 b2).2.2.1) key, (arcRoomF most (if p + (if (b2.length : Int) / (b1.length : Int) > 1 then (b2.length : Int) / (b1.length : Int) else 1) < most then p + (if (b2.length : Int) / (b1.length : Int) > 1 then (b2.length : Int) / (b1.length : Int) else 1) else most) t1 t2 b1 b2).2.2.2.1, false, (arcRoomF most (if p + (if (b2.length : Int) / (b1.length : Int) > 1 then (b2.length : Int) / (b1.length : Int) else 1) < most then p + (if (b2.length : Int) / (b1.length : Int) > 1 then (b2.length : Int) / (b1.length : Int) else 1) else most) t1 t2 b1 b2).2.2.2.2.1, (arcRoomF most (if p + (if (b2.length : Int) / (b1.length : Int) > 1 then (b2.length : Int) / (b1.length : Int) else 1) < most then p + (if (b2.length : Int) / (b1.length : Int) > 1 then (b2.length : Int) / (b1.length : Int) else 1) else most) t1 t2 b1 b2).2.2.2.2.2) else if key ∈ b2 then if most = 0 then (p, t1, t2, b1, b2, false, ⟨#[]⟩, false) else ((if p - (if (b1.length : Int) / (b2.length : Int) > 1 then (b1.length : Int) / (b2.length : Int) else 1) > 0 then p - (if (b1.length : Int) / (b2.length : Int) > 1 then (b1.length : Int) / (b2.length : Int) else 1) else 0), (arcRoomT most (if p - (if (b1.length : Int) / (b2.length : Int) > 1 then (b1.length : Int) / (b2.length : Int) else 1) > 0 then p - (if (b1.length : Int) / (b2.length : Int) > 1 then (b1.length : Int) / (b2.length : Int) else 1) else 0) t1 t2 b1 b2).1, fr ((arcRoomT most (if p - (if (b1.length : Int) / (b2.length : Int) > 1 then (b1.length : Int) / (b2.length : Int) else 1) > 0 then p - (if (b1.length : Int) / (b2.length : Int) > 1 then (b1.length : Int) / (b2.length : Int) else 1) else 0) t1 t2 b1 b2).2.1) key, (arcRoomT most (if p - (if (b1.length : Int) / (b2.length : Int) > 1 then (b1.length : Int) / (b2.length : Int) else 1) > 0 then p - (if (b1.length : Int) / (b2.length : Int) > 1 then (b1.length : Int) / (b2.length : Int) else 1) else 0) t1 t2 b1 b2).2.2.1, rm ((arcRoomT most (if p - (if (b1.length : Int) / (b2.length : Int) > 1 then (b1.length : Int) / (b2.length : Int) else 1) > 0 then p - (if (b1.length : Int) / (b2.length : Int) > 1 then (b1.length : Int) / (b2.length : Int) else 1) else 0) t1 t2 b1 b2).2.2.2.1) key, false, (arcRoomT most (if p - (if (b1.length : Int) / (b2.length : Int) > 1 then (b1.length : Int) / (b2.length : Int) else 1) > 0 then p - (if (b1.length : Int) / (b2.length : Int) > 1 then (b1.length : Int) / (b2.length : Int) else 1) else 0) t1 t2 b1 b2).2.2.2.2.1, (arcRoomT most (if p - (if (b1.length : Int) / (b2.length : Int) > 1 then (b1.length : Int) / (b2.length : Int) else 1) > 0 then p - (if (b1.length : Int) / (b2.length : Int) > 1 then (b1.length : Int) / (b2.length : Int) else 1) else 0) t1 t2 b1 b2).2.2.2.2.2) else if most = 0 then (p, t1, t2, b1, b2, false, ⟨#[]⟩, false) else (p, fr ((arcFresh most p t1 t2 b1 b2).1) key, (arcFresh most p t1 t2 b1 b2).2.1, (arcFresh most p t1 t2 b1 b2).2.2.1, (arcFresh most p t1 t2 b1 b2).2.2.2.1, false, (arcFresh most p t1 t2 b1 b2).2.2.2.2.1, (arcFresh most p t1 t2 b1 b2).2.2.2.2.2)

set_option maxHeartbeats 4000000 in
set_option maxRecDepth 100000 in
theorem arc_Request {b : Nat} {lt1 : Nat} {lt2 : Nat} {lb1 : Nat} {lb2 : Nat} {n : Nat} {most : Int} {p : Int} {t1 : List ByteArray} {t2 : List ByteArray} {b1 : List ByteArray} {b2 : List ByteArray} (key : ByteArray) {n' : Nat} (hb : n + 1 ≤ 1000000000) (hn : n + 2 ≤ n') (h0 : 0 ≤ most ∧ most ≤ 4611686018427387904) (hp : 0 ≤ p ∧ p ≤ most) : Tri Try.prog 10 #[pV b 0, sV key] (arcL b lt1 lt2 lb1 lb2 most p t1 t2 b1 b2 n) (Same (arcL b lt1 lt2 lb1 lb2 most ((arcReq most p t1 t2 b1 b2 key).1) ((arcReq most p t1 t2 b1 b2 key).2.1) ((arcReq most p t1 t2 b1 b2 key).2.2.1) ((arcReq most p t1 t2 b1 b2 key).2.2.2.1) ((arcReq most p t1 t2 b1 b2 key).2.2.2.2.1) n') (.agg #[bV ((arcReq most p t1 t2 b1 b2 key).2.2.2.2.2.1), sV ((arcReq most p t1 t2 b1 b2 key).2.2.2.2.2.2.1), bV ((arcReq most p t1 t2 b1 b2 key).2.2.2.2.2.2.2)])) := by
  refine Tri.enter (args := [pV b 0, sV key]) Try.func10 rfl rfl rfl (fun B wz => ?_)
  refine Cd.fact (i := 1) rfl llR.le ?_; rintro ⟨_, hl1⟩
  refine Cd.fact (i := 2) rfl llR.le ?_; rintro ⟨_, hl2⟩
  refine Cd.fact (i := 3) rfl llR.le ?_; rintro ⟨_, hl3⟩
  refine Cd.fact (i := 4) rfl llR.le ?_; rintro ⟨_, hl4⟩
  refine Cd.seq ?_
  refine Cd.region rfl ?_
  refine Sq.ex [] (l := []) (o_new [bV false, sV ⟨#[]⟩, bV false] (fun w => by kernel_rfl)) (by kernel_rfl) rfl (by kernel_rfl) (fun _ => Nat.zero_le _) ?_; intro b3 _
  refine Sq.done ?_
  refine Ex'.next ?_
  refine Cd.seq ?_
  refine Cd.region rfl ?_
  refine Sq.ex [] (l := []) (o_new [bV false, sV ⟨#[]⟩, bV false] (fun w => by kernel_rfl)) (by kernel_rfl) rfl (by kernel_rfl) (fun _ => Nat.zero_le _) ?_; intro b4 _
  refine Sq.done ?_
  refine Ex'.next ?_
  refine Cd.seq ?_
  refine Cd.region rfl ?_
  refine Sq.vals [0, 1] (rest := [2, 3]) [pV b 0, sV key] (fun w => by kernel_rfl) ?_
  by_cases h5 : key ∈ t1
  ·
    refine Sq.same [0, 1, 2, 3, 4] (l := arcL b lt1 lt2 lb1 lb2 most p t1 t2 b1 b2 n) (o_call (by kernel_rfl) Try.call25 (arc_at0 (n := n) (most := most) (p := p) (t1 := t1) (t2 := t2) (b1 := b1) (b2 := b2) key (by omega) h5)) (by kernel_rfl) rfl (by kernel_rfl) rfl ?_
    refine Sq.vals [3] (rest := []) [iV 0] (fun w => by kernel_rfl) ?_
    refine Sq.done ?_
    refine Ex'.next ?_
    refine Cd.seq ?_
    refine Cd.region rfl ?_
    refine Sq.vals [0] (rest := []) [iV 1] (fun w => by kernel_rfl) ?_
    refine Sq.done ?_
    refine Ex'.next ?_
    refine Cd.seq ?_
    refine Cd.block ?_
    refine Cd.seq ?_
    refine Cd.region rfl ?_
    refine Sq.vals [0, 1, 2] (rest := [3, 4, 5]) [pV b 0, pV b 0, pV b 0] (fun w => by kernel_rfl) ?_
    refine Sq.same [0] (l := [arcB b lt1 lt2 lb1 lb2 most p]) (o_load (i := 0) (v := iV most) (by kernel_rfl) (by kernel_rfl) (by kernel_rfl)) (by kernel_rfl) rfl (by kernel_rfl) rfl ?_
    refine Sq.v (r := bV (decide (most = 0))) (o_eqI (k := .i64) (a := most) (b := 0) (by kernel_rfl) (by kernel_rfl)) rfl (by kernel_rfl) ?_
    refine Sq.vals [5] (rest := []) [bV (decide (most = 0))] (fun w => by kernel_rfl) ?_
    refine Sq.done ?_
    refine Ex'.next ?_
    refine Cd.case (p := most = 0) (by kernel_rfl) (fun h6 => ?_) (fun h6 => ?_)
    ·
      refine Cd.seq ?_
      refine Cd.region rfl ?_
      refine Sq.vals [0, 1, 2] (rest := [3]) [iV 0, bV true, .agg #[bV true, sV ⟨#[]⟩, bV false]] (fun w => by kernel_rfl) ?_
      refine Sq.same [5] (l := [blkR b3 [bV false, sV ⟨#[]⟩, bV false] 28]) (o_store (i := 0) (v := .agg #[bV true, sV ⟨#[]⟩, bV false]) (by kernel_rfl) (by kernel_rfl) (by kernel_rfl) (by kernel_rfl) (by kernel_rfl)) (by kernel_rfl) rfl (by kernel_rfl) rfl ?_
      refine Sq.done ?_
      refine Ex'.next ?_
      refine Cd.ret ?_
      refine Ex'.blockRet ?_
      refine Ex'.thenRet ?_
      refine Ex'.ret Try.results10 (RVs.cellN (i := 0) (b := b3) (l := [bV true, sV ⟨#[]⟩, bV false]) (E := 28) [bV true, sV ⟨#[]⟩, bV false] 5 (by kernel_rfl) (by kernel_rfl) (by kernel_rfl) (by kernel_rfl) (RVs.nil)) (fun w hw => ?_)
      have e : arcReq most p t1 t2 b1 b2 key = (p, t1, t2, b1, b2, true, ⟨#[]⟩, false) := by unfold arcReq; rw [if_pos h5, if_pos h6]
      rw [e]
      exact ⟨_, ⟨rfl, rfl⟩, ((((hw.conv 1 (R := llR lt1 t1 n) (R' := llR lt1 t1 n') (by kernel_rfl) (llR.up (by omega))).conv 2 (R := llR lt2 t2 n) (R' := llR lt2 t2 n') (by kernel_rfl) (llR.up (by omega))).conv 3 (R := llR lb1 b1 n) (R' := llR lb1 b1 n') (by kernel_rfl) (llR.up (by omega))).conv 4 (R := llR lb2 b2 n) (R' := llR lb2 b2 n') (by kernel_rfl) (llR.up (by omega))).pickB [0, 1, 2, 3, 4] (by kernel_rfl) (by kernel_rfl) (by kernel_rfl)⟩
    ·
      refine Cd.seq ?_
      refine Cd.region rfl ?_
      refine Sq.vals [0, 1, 2] (rest := []) [iV 0, bV true, bV true] (fun w => by kernel_rfl) ?_
      refine Sq.done ?_
      refine Ex'.next ?_
      refine Cd.condT (by kernel_rfl) ?_
      refine Cd.region rfl ?_
      refine Sq.vals [0] (rest := [1]) [pV b4 0] (fun w => by kernel_rfl) ?_
      refine Sq.same [6] (l := [blkR b4 [bV false, sV ⟨#[]⟩, bV false] 28]) (o_store (i := 0) (v := bV true) (by kernel_rfl) (by kernel_rfl) (by kernel_rfl) (by kernel_rfl) (by kernel_rfl)) (by kernel_rfl) rfl (by kernel_rfl) rfl ?_
      refine Sq.done ?_
      refine Ex'.blockNormal ?_
      refine Ex'.next ?_
      refine Cd.seq ?_
      refine Cd.seq ?_
      refine Cd.region rfl ?_
      refine Sq.vals [0, 1] (rest := []) [iV 0, bV true] (fun w => by kernel_rfl) ?_
      refine Sq.done ?_
      refine Ex'.next ?_
      refine Cd.condT (by kernel_rfl) ?_
      refine Cd.region rfl ?_
      refine Sq.vals [0, 1, 2, 3, 4] (rest := [5, 6, 7]) [pV b 0, iV 0, pV b 0, pV b 2, pV b 2] (fun w => by kernel_rfl) ?_
      refine Sq.same [0] (l := [arcB b lt1 lt2 lb1 lb2 most p]) (o_load (i := 2) (v := pV lt1 0) (by kernel_rfl) (by kernel_rfl) (by kernel_rfl)) (by kernel_rfl) rfl (by kernel_rfl) rfl ?_
      refine Sq.vals [6] (rest := [7]) [sV key] (fun w => by kernel_rfl) ?_
      refine Sq.same [1] (l := [llR lt1 t1 n]) (o_call (by kernel_rfl) Try.call29 (t_Remove (ks := t1) (n := n) key (by omega))) (by kernel_rfl) rfl (by kernel_rfl) rfl ?_
      refine Sq.done ?_
      refine Ex'.next ?_
      refine Cd.seq ?_
      refine Cd.region rfl ?_
      refine Sq.vals [0, 1, 2, 3, 4] (rest := [5, 6, 7]) [pV b 0, iV 1, pV b 0, pV b 2, pV b 3] (fun w => by kernel_rfl) ?_
      refine Sq.same [0] (l := [arcB b lt1 lt2 lb1 lb2 most p]) (o_load (i := 3) (v := pV lt2 0) (by kernel_rfl) (by kernel_rfl) (by kernel_rfl)) (by kernel_rfl) rfl (by kernel_rfl) rfl ?_
      refine Sq.vals [6] (rest := [7]) [sV key] (fun w => by kernel_rfl) ?_
      refine Sq.same [2] (l := [llR lt2 t2 n]) (o_call (by kernel_rfl) Try.call30 (t_Front (ks := t2) (n := n) key (by omega))) (by kernel_rfl) rfl (by kernel_rfl) rfl ?_
      refine Sq.done ?_
      refine Ex'.next ?_
      refine Cd.seq ?_
      refine Cd.region rfl ?_
      refine Sq.same [6] (l := [blkR b4 [bV true, sV ⟨#[]⟩, bV false] 28]) (o_loadN (i := 0) [bV true, sV ⟨#[]⟩, bV false] (by kernel_rfl) (by kernel_rfl) (by kernel_rfl)) (by kernel_rfl) rfl (by kernel_rfl) rfl ?_
      refine Sq.same [5] (l := [blkR b3 [bV false, sV ⟨#[]⟩, bV false] 28]) (o_store (i := 0) (v := .agg #[bV true, sV ⟨#[]⟩, bV false]) (by kernel_rfl) (by kernel_rfl) (by kernel_rfl) (by kernel_rfl) (by kernel_rfl)) (by kernel_rfl) rfl (by kernel_rfl) rfl ?_
      refine Sq.done ?_
      refine Ex'.next ?_
      refine Cd.ret ?_
      refine Ex'.ret Try.results10 (RVs.cellN (i := 0) (b := b3) (l := [bV true, sV ⟨#[]⟩, bV false]) (E := 28) [bV true, sV ⟨#[]⟩, bV false] 5 (by kernel_rfl) (by kernel_rfl) (by kernel_rfl) (by kernel_rfl) (RVs.nil)) (fun w hw => ?_)
      have e : arcReq most p t1 t2 b1 b2 key = (p, rm t1 key, fr t2 key, b1, b2, true, ⟨#[]⟩, false) := by unfold arcReq; rw [if_pos h5, if_neg h6]
      rw [e]
      exact ⟨_, ⟨rfl, rfl⟩, ((((hw.conv 1 (R := llR lt1 (rm t1 key) n) (R' := llR lt1 (rm t1 key) n') (by kernel_rfl) (llR.up (by omega))).conv 2 (R := llR lt2 (fr t2 key) (n + 1)) (R' := llR lt2 (fr t2 key) n') (by kernel_rfl) (llR.up (by omega))).conv 3 (R := llR lb1 b1 n) (R' := llR lb1 b1 n') (by kernel_rfl) (llR.up (by omega))).conv 4 (R := llR lb2 b2 n) (R' := llR lb2 b2 n') (by kernel_rfl) (llR.up (by omega))).pickB [0, 1, 2, 3, 4] (by kernel_rfl) (by kernel_rfl) (by kernel_rfl)⟩
  ·
    by_cases h7 : key ∈ t2
    ·
      refine Sq.same [0, 1, 2, 3, 4] (l := arcL b lt1 lt2 lb1 lb2 most p t1 t2 b1 b2 n) (o_call (by kernel_rfl) Try.call25 (arc_at1 (n := n) (most := most) (p := p) (t1 := t1) (t2 := t2) (b1 := b1) (b2 := b2) key (by omega) h5 h7)) (by kernel_rfl) rfl (by kernel_rfl) rfl ?_
      refine Sq.vals [3] (rest := []) [iV 1] (fun w => by kernel_rfl) ?_
      refine Sq.done ?_
      refine Ex'.next ?_
      refine Cd.seq ?_
      refine Cd.region rfl ?_
      refine Sq.vals [0] (rest := []) [iV 1] (fun w => by kernel_rfl) ?_
      refine Sq.done ?_
      refine Ex'.next ?_
      refine Cd.seq ?_
      refine Cd.block ?_
      refine Cd.seq ?_
      refine Cd.region rfl ?_
      refine Sq.vals [0, 1, 2] (rest := [3, 4, 5]) [pV b 0, pV b 0, pV b 0] (fun w => by kernel_rfl) ?_
      refine Sq.same [0] (l := [arcB b lt1 lt2 lb1 lb2 most p]) (o_load (i := 0) (v := iV most) (by kernel_rfl) (by kernel_rfl) (by kernel_rfl)) (by kernel_rfl) rfl (by kernel_rfl) rfl ?_
      refine Sq.v (r := bV (decide (most = 0))) (o_eqI (k := .i64) (a := most) (b := 0) (by kernel_rfl) (by kernel_rfl)) rfl (by kernel_rfl) ?_
      refine Sq.vals [5] (rest := []) [bV (decide (most = 0))] (fun w => by kernel_rfl) ?_
      refine Sq.done ?_
      refine Ex'.next ?_
      refine Cd.case (p := most = 0) (by kernel_rfl) (fun h8 => ?_) (fun h8 => ?_)
      ·
        refine Cd.seq ?_
        refine Cd.region rfl ?_
        refine Sq.vals [0, 1, 2] (rest := [3]) [iV 1, bV true, .agg #[bV true, sV ⟨#[]⟩, bV false]] (fun w => by kernel_rfl) ?_
        refine Sq.same [5] (l := [blkR b3 [bV false, sV ⟨#[]⟩, bV false] 28]) (o_store (i := 0) (v := .agg #[bV true, sV ⟨#[]⟩, bV false]) (by kernel_rfl) (by kernel_rfl) (by kernel_rfl) (by kernel_rfl) (by kernel_rfl)) (by kernel_rfl) rfl (by kernel_rfl) rfl ?_
        refine Sq.done ?_
        refine Ex'.next ?_
        refine Cd.ret ?_
        refine Ex'.blockRet ?_
        refine Ex'.thenRet ?_
        refine Ex'.ret Try.results10 (RVs.cellN (i := 0) (b := b3) (l := [bV true, sV ⟨#[]⟩, bV false]) (E := 28) [bV true, sV ⟨#[]⟩, bV false] 5 (by kernel_rfl) (by kernel_rfl) (by kernel_rfl) (by kernel_rfl) (RVs.nil)) (fun w hw => ?_)
        have e : arcReq most p t1 t2 b1 b2 key = (p, t1, t2, b1, b2, true, ⟨#[]⟩, false) := by unfold arcReq; rw [if_neg h5, if_pos h7, if_pos h8]
        rw [e]
        exact ⟨_, ⟨rfl, rfl⟩, ((((hw.conv 1 (R := llR lt1 t1 n) (R' := llR lt1 t1 n') (by kernel_rfl) (llR.up (by omega))).conv 2 (R := llR lt2 t2 n) (R' := llR lt2 t2 n') (by kernel_rfl) (llR.up (by omega))).conv 3 (R := llR lb1 b1 n) (R' := llR lb1 b1 n') (by kernel_rfl) (llR.up (by omega))).conv 4 (R := llR lb2 b2 n) (R' := llR lb2 b2 n') (by kernel_rfl) (llR.up (by omega))).pickB [0, 1, 2, 3, 4] (by kernel_rfl) (by kernel_rfl) (by kernel_rfl)⟩
      ·
        refine Cd.seq ?_
        refine Cd.region rfl ?_
        refine Sq.vals [0, 1, 2] (rest := []) [iV 1, bV true, bV true] (fun w => by kernel_rfl) ?_
        refine Sq.done ?_
        refine Ex'.next ?_
        refine Cd.condT (by kernel_rfl) ?_
        refine Cd.region rfl ?_
        refine Sq.vals [0] (rest := [1]) [pV b4 0] (fun w => by kernel_rfl) ?_
        refine Sq.same [6] (l := [blkR b4 [bV false, sV ⟨#[]⟩, bV false] 28]) (o_store (i := 0) (v := bV true) (by kernel_rfl) (by kernel_rfl) (by kernel_rfl) (by kernel_rfl) (by kernel_rfl)) (by kernel_rfl) rfl (by kernel_rfl) rfl ?_
        refine Sq.done ?_
        refine Ex'.blockNormal ?_
        refine Ex'.next ?_
        refine Cd.seq ?_
        refine Cd.seq ?_
        refine Cd.region rfl ?_
        refine Sq.vals [0, 1] (rest := []) [iV 1, bV true] (fun w => by kernel_rfl) ?_
        refine Sq.done ?_
        refine Ex'.next ?_
        refine Cd.condT (by kernel_rfl) ?_
        refine Cd.region rfl ?_
        refine Sq.vals [0, 1, 2, 3, 4] (rest := [5, 6, 7]) [pV b 0, iV 1, pV b 0, pV b 2, pV b 3] (fun w => by kernel_rfl) ?_
        refine Sq.same [0] (l := [arcB b lt1 lt2 lb1 lb2 most p]) (o_load (i := 3) (v := pV lt2 0) (by kernel_rfl) (by kernel_rfl) (by kernel_rfl)) (by kernel_rfl) rfl (by kernel_rfl) rfl ?_
        refine Sq.vals [6] (rest := [7]) [sV key] (fun w => by kernel_rfl) ?_
        refine Sq.same [2] (l := [llR lt2 t2 n]) (o_call (by kernel_rfl) Try.call29 (t_Remove (ks := t2) (n := n) key (by omega))) (by kernel_rfl) rfl (by kernel_rfl) rfl ?_
        refine Sq.done ?_
        refine Ex'.next ?_
        refine Cd.seq ?_
        refine Cd.region rfl ?_
        refine Sq.vals [0, 1, 2, 3, 4] (rest := [5, 6, 7]) [pV b 0, iV 1, pV b 0, pV b 2, pV b 3] (fun w => by kernel_rfl) ?_
        refine Sq.same [0] (l := [arcB b lt1 lt2 lb1 lb2 most p]) (o_load (i := 3) (v := pV lt2 0) (by kernel_rfl) (by kernel_rfl) (by kernel_rfl)) (by kernel_rfl) rfl (by kernel_rfl) rfl ?_
        refine Sq.vals [6] (rest := [7]) [sV key] (fun w => by kernel_rfl) ?_
        refine Sq.same [2] (l := [llR lt2 (rm t2 key) n]) (o_call (by kernel_rfl) Try.call30 (t_Front (ks := rm t2 key) (n := n) key (by omega))) (by kernel_rfl) rfl (by kernel_rfl) rfl ?_
        refine Sq.done ?_
        refine Ex'.next ?_
        refine Cd.seq ?_
        refine Cd.region rfl ?_
        refine Sq.same [6] (l := [blkR b4 [bV true, sV ⟨#[]⟩, bV false] 28]) (o_loadN (i := 0) [bV true, sV ⟨#[]⟩, bV false] (by kernel_rfl) (by kernel_rfl) (by kernel_rfl)) (by kernel_rfl) rfl (by kernel_rfl) rfl ?_
        refine Sq.same [5] (l := [blkR b3 [bV false, sV ⟨#[]⟩, bV false] 28]) (o_store (i := 0) (v := .agg #[bV true, sV ⟨#[]⟩, bV false]) (by kernel_rfl) (by kernel_rfl) (by kernel_rfl) (by kernel_rfl) (by kernel_rfl)) (by kernel_rfl) rfl (by kernel_rfl) rfl ?_
        refine Sq.done ?_
        refine Ex'.next ?_
        refine Cd.ret ?_
        refine Ex'.ret Try.results10 (RVs.cellN (i := 0) (b := b3) (l := [bV true, sV ⟨#[]⟩, bV false]) (E := 28) [bV true, sV ⟨#[]⟩, bV false] 5 (by kernel_rfl) (by kernel_rfl) (by kernel_rfl) (by kernel_rfl) (RVs.nil)) (fun w hw => ?_)
        have e : arcReq most p t1 t2 b1 b2 key = (p, t1, fr (rm t2 key) key, b1, b2, true, ⟨#[]⟩, false) := by unfold arcReq; rw [if_neg h5, if_pos h7, if_neg h8]
        rw [e]
        exact ⟨_, ⟨rfl, rfl⟩, ((((hw.conv 1 (R := llR lt1 t1 n) (R' := llR lt1 t1 n') (by kernel_rfl) (llR.up (by omega))).conv 2 (R := llR lt2 (fr (rm t2 key) key) (n + 1)) (R' := llR lt2 (fr (rm t2 key) key) n') (by kernel_rfl) (llR.up (by omega))).conv 3 (R := llR lb1 b1 n) (R' := llR lb1 b1 n') (by kernel_rfl) (llR.up (by omega))).conv 4 (R := llR lb2 b2 n) (R' := llR lb2 b2 n') (by kernel_rfl) (llR.up (by omega))).pickB [0, 1, 2, 3, 4] (by kernel_rfl) (by kernel_rfl) (by kernel_rfl)⟩
    ·
      by_cases h9 : key ∈ b1
      ·
        have hpos := List.length_pos_of_mem h9
        have hq := q_bound (a := (b2.length : Int)) (b := (b1.length : Int)) (by omega) (by omega)
        refine Sq.same [0, 1, 2, 3, 4] (l := arcL b lt1 lt2 lb1 lb2 most p t1 t2 b1 b2 n) (o_call (by kernel_rfl) Try.call25 (arc_at2 (n := n) (most := most) (p := p) (t1 := t1) (t2 := t2) (b1 := b1) (b2 := b2) key (by omega) h5 h7 h9)) (by kernel_rfl) rfl (by kernel_rfl) rfl ?_
        refine Sq.vals [3] (rest := []) [iV 2] (fun w => by kernel_rfl) ?_
        refine Sq.done ?_
        refine Ex'.next ?_
        refine Cd.seq ?_
        refine Cd.region rfl ?_
        refine Sq.vals [0] (rest := []) [iV 1] (fun w => by kernel_rfl) ?_
        refine Sq.done ?_
        refine Ex'.next ?_
        refine Cd.seq ?_
        refine Cd.block ?_
        refine Cd.seq ?_
        refine Cd.region rfl ?_
        refine Sq.vals [0, 1, 2] (rest := [3, 4, 5]) [pV b 0, pV b 0, pV b 0] (fun w => by kernel_rfl) ?_
        refine Sq.same [0] (l := [arcB b lt1 lt2 lb1 lb2 most p]) (o_load (i := 0) (v := iV most) (by kernel_rfl) (by kernel_rfl) (by kernel_rfl)) (by kernel_rfl) rfl (by kernel_rfl) rfl ?_
        refine Sq.v (r := bV (decide (most = 0))) (o_eqI (k := .i64) (a := most) (b := 0) (by kernel_rfl) (by kernel_rfl)) rfl (by kernel_rfl) ?_
        refine Sq.vals [5] (rest := []) [bV (decide (most = 0))] (fun w => by kernel_rfl) ?_
        refine Sq.done ?_
        refine Ex'.next ?_
        refine Cd.case (p := most = 0) (by kernel_rfl) (fun h10 => ?_) (fun h10 => ?_)
        ·
          refine Cd.seq ?_
          refine Cd.region rfl ?_
          refine Sq.vals [0, 1, 2] (rest := [3]) [iV 2, bV false, .agg #[bV false, sV ⟨#[]⟩, bV false]] (fun w => by kernel_rfl) ?_
          refine Sq.same [5] (l := [blkR b3 [bV false, sV ⟨#[]⟩, bV false] 28]) (o_store (i := 0) (v := .agg #[bV false, sV ⟨#[]⟩, bV false]) (by kernel_rfl) (by kernel_rfl) (by kernel_rfl) (by kernel_rfl) (by kernel_rfl)) (by kernel_rfl) rfl (by kernel_rfl) rfl ?_
          refine Sq.done ?_
          refine Ex'.next ?_
          refine Cd.ret ?_
          refine Ex'.blockRet ?_
          refine Ex'.thenRet ?_
          refine Ex'.ret Try.results10 (RVs.cellN (i := 0) (b := b3) (l := [bV false, sV ⟨#[]⟩, bV false]) (E := 28) [bV false, sV ⟨#[]⟩, bV false] 5 (by kernel_rfl) (by kernel_rfl) (by kernel_rfl) (by kernel_rfl) (RVs.nil)) (fun w hw => ?_)
          have e : arcReq most p t1 t2 b1 b2 key = (p, t1, t2, b1, b2, false, ⟨#[]⟩, false) := by unfold arcReq; rw [if_neg h5, if_neg h7, if_pos h9, if_pos h10]
          rw [e]
          exact ⟨_, ⟨rfl, rfl⟩, ((((hw.conv 1 (R := llR lt1 t1 n) (R' := llR lt1 t1 n') (by kernel_rfl) (llR.up (by omega))).conv 2 (R := llR lt2 t2 n) (R' := llR lt2 t2 n') (by kernel_rfl) (llR.up (by omega))).conv 3 (R := llR lb1 b1 n) (R' := llR lb1 b1 n') (by kernel_rfl) (llR.up (by omega))).conv 4 (R := llR lb2 b2 n) (R' := llR lb2 b2 n') (by kernel_rfl) (llR.up (by omega))).pickB [0, 1, 2, 3, 4] (by kernel_rfl) (by kernel_rfl) (by kernel_rfl)⟩
        ·
          refine Cd.seq ?_
          refine Cd.region rfl ?_
          refine Sq.vals [0, 1, 2] (rest := []) [iV 2, bV false, bV false] (fun w => by kernel_rfl) ?_
          refine Sq.done ?_
          refine Ex'.next ?_
          refine Cd.condF (by kernel_rfl) ?_
          refine Cd.seq ?_
          refine Cd.region rfl ?_
          refine Sq.vals [0, 1, 2] (rest := []) [iV 2, bV true, bV true] (fun w => by kernel_rfl) ?_
          refine Sq.done ?_
          refine Ex'.next ?_
          refine Cd.condT (by kernel_rfl) ?_
          refine Cd.seq ?_
          refine Cd.plan (0 :: 0 :: 2 :: 6 :: 14 :: 0 :: 32 :: 96 :: 224 :: 0 :: 512 :: 1536 :: 3584 :: 7680 :: 15872 :: 0 :: 32768 :: 98304 :: 229376 :: 491520 :: 1048064 :: 2096640 :: 4193792 :: 8388576 :: 16777214 :: 33554431 :: 67108863 :: 134217727 :: []) [(4, [(0, false, 0)]), (8, [(0, false, 0)]), (13, [(0, false, 0)]), (14, [(4, false, 0)]), (19, [(0, false, 0)]), (20, [(3, false, 0)]), (27, [(0, true, 0)])] [] [] [(0, 27, fun g => arcB b lt1 lt2 lb1 lb2 most (if p + (if (b2.length : Int) / (b1.length : Int) > 1 then (b2.length : Int) / (b1.length : Int) else 1) < most then p + (if (b2.length : Int) / (b1.length : Int) > 1 then (b2.length : Int) / (b1.length : Int) else 1) else most))] ((fun g => pV b 0) :: (fun g => pV b 0) :: (fun g => pV b 0) :: (fun g => pV b 0) :: (fun g => iV most) :: (fun g => pV b 0) :: (fun g => pV b 0) :: (fun g => pV b 1) :: (fun g => iV p) :: (fun g => pV b 0) :: (fun g => pV b 0) :: (fun g => pV b 2) :: (fun g => pV b 5) :: (fun g => pV lb2 0) :: (fun g => iV (b2.length : Int)) :: (fun g => pV b 0) :: (fun g => pV b 0) :: (fun g => pV b 2) :: (fun g => pV b 4) :: (fun g => pV lb1 0) :: (fun g => iV (b1.length : Int)) :: (fun g => iV ((b2.length : Int) / (b1.length : Int))) :: (fun g => iV (if (b2.length : Int) / (b1.length : Int) > 1 then (b2.length : Int) / (b1.length : Int) else 1)) :: (fun g => iV (p + (if (b2.length : Int) / (b1.length : Int) > 1 then (b2.length : Int) / (b1.length : Int) else 1))) :: (fun g => iV (if p + (if (b2.length : Int) / (b1.length : Int) > 1 then (b2.length : Int) / (b1.length : Int) else 1) < most then p + (if (b2.length : Int) / (b1.length : Int) > 1 then (b2.length : Int) / (b1.length : Int) else 1) else most)) :: (fun g => pV b 0) :: (fun g => pV b 1) :: (fun g => undef) :: []) (by kernel_rfl) (by kernel_rfl) rfl (trivial) ?_ ?_
          · exact ⟨ob_val fun g w => by kernel_rfl, ob_val fun g w => by kernel_rfl, ob_val fun g w => by kernel_rfl, ob_val fun g w => by kernel_rfl, ob_s (l := fun g => [arcB b lt1 lt2 lb1 lb2 most p]) (l' := fun g => [arcB b lt1 lt2 lb1 lb2 most p]) (v := fun g => iV most) (fun g => o_load (i := 0) (v := iV most) (by kernel_rfl) (by kernel_rfl) (by kernel_rfl)) (fun g => by kernel_rfl), ob_val fun g w => by kernel_rfl, ob_val fun g w => by kernel_rfl, ob_val fun g w => by kernel_rfl, ob_s (l := fun g => [arcB b lt1 lt2 lb1 lb2 most p]) (l' := fun g => [arcB b lt1 lt2 lb1 lb2 most p]) (v := fun g => iV p) (fun g => o_load (i := 1) (v := iV p) (by kernel_rfl) (by kernel_rfl) (by kernel_rfl)) (fun g => by kernel_rfl), ob_val fun g w => by kernel_rfl, ob_val fun g w => by kernel_rfl, ob_val fun g w => by kernel_rfl, ob_val fun g w => by kernel_rfl, ob_s (l := fun g => [arcB b lt1 lt2 lb1 lb2 most p]) (l' := fun g => [arcB b lt1 lt2 lb1 lb2 most p]) (v := fun g => pV lb2 0) (fun g => o_load (i := 5) (v := pV lb2 0) (by kernel_rfl) (by kernel_rfl) (by kernel_rfl)) (fun g => by kernel_rfl), ob_s (l := fun g => [llR lb2 b2 n]) (l' := fun g => [llR lb2 b2 n]) (v := fun g => iV (b2.length : Int)) (fun g => o_call (by kernel_rfl) Try.call26 (t_Len (ks := b2) (n := n))) (fun g => by kernel_rfl), ob_val fun g w => by kernel_rfl, ob_val fun g w => by kernel_rfl, ob_val fun g w => by kernel_rfl, ob_val fun g w => by kernel_rfl, ob_s (l := fun g => [arcB b lt1 lt2 lb1 lb2 most p]) (l' := fun g => [arcB b lt1 lt2 lb1 lb2 most p]) (v := fun g => pV lb1 0) (fun g => o_load (i := 4) (v := pV lb1 0) (by kernel_rfl) (by kernel_rfl) (by kernel_rfl)) (fun g => by kernel_rfl), ob_s (l := fun g => [llR lb1 b1 n]) (l' := fun g => [llR lb1 b1 n]) (v := fun g => iV (b1.length : Int)) (fun g => o_call (by kernel_rfl) Try.call26 (t_Len (ks := b1) (n := n))) (fun g => by kernel_rfl), ob_v (v := fun g => iV ((b2.length : Int) / (b1.length : Int))) (fun g => o_quo (k := .i64) (a := (b2.length : Int)) (b := (b1.length : Int)) (c := (b2.length : Int) / (b1.length : Int)) (by kernel_rfl) (by kernel_rfl) (by omega) (w64 (Int.tdiv_eq_ediv_of_nonneg (by omega)) (q_range (a := (b2.length : Int)) (b := (b1.length : Int)) (by omega) (by omega) (by omega)))) (fun g => by kernel_rfl), ob_val fun g w => by kernel_rfl, ob_v (v := fun g => iV (p + (if (b2.length : Int) / (b1.length : Int) > 1 then (b2.length : Int) / (b1.length : Int) else 1))) (fun g => o_add (k := .i64) (a := p) (b := (if (b2.length : Int) / (b1.length : Int) > 1 then (b2.length : Int) / (b1.length : Int) else 1)) (c := p + (if (b2.length : Int) / (b1.length : Int) > 1 then (b2.length : Int) / (b1.length : Int) else 1)) (by kernel_rfl) (by kernel_rfl) (w64 rfl (by omega))) (fun g => by kernel_rfl), ob_val fun g w => by kernel_rfl, ob_val fun g w => by kernel_rfl, ob_val fun g w => by kernel_rfl, ob_s (l := fun g => [arcB b lt1 lt2 lb1 lb2 most p]) (l' := fun g => [arcB b lt1 lt2 lb1 lb2 most (if p + (if (b2.length : Int) / (b1.length : Int) > 1 then (b2.length : Int) / (b1.length : Int) else 1) < most then p + (if (b2.length : Int) / (b1.length : Int) > 1 then (b2.length : Int) / (b1.length : Int) else 1) else most)]) (v := fun g => undef) (fun g => o_store (i := 1) (v := iV (if p + (if (b2.length : Int) / (b1.length : Int) > 1 then (b2.length : Int) / (b1.length : Int) else 1) < most then p + (if (b2.length : Int) / (b1.length : Int) > 1 then (b2.length : Int) / (b1.length : Int) else 1) else most)) (by kernel_rfl) (by kernel_rfl) (by kernel_rfl) (by kernel_rfl) (by kernel_rfl)) (fun g => by kernel_rfl), trivial⟩
          intro g
          refine Ex'.sub (subB_spec [0, 1, 4, 5, 6, 7]) ?_
          refine Ex'.as [0, 1, 2, 3, 4, 5, 6] (σ' := [(0, pV b 0), (1, sV key), (4, pV b3 0), (5, pV b4 0), (6, iV 2), (7, iV 1)]) (Γ' := [arcB b lt1 lt2 lb1 lb2 most (if p + (if (b2.length : Int) / (b1.length : Int) > 1 then (b2.length : Int) / (b1.length : Int) else 1) < most then p + (if (b2.length : Int) / (b1.length : Int) > 1 then (b2.length : Int) / (b1.length : Int) else 1) else most), llR lt1 t1 n, llR lt2 t2 n, llR lb1 b1 n, llR lb2 b2 n, blkR b3 [bV false, sV ⟨#[]⟩, bV false] 28, blkR b4 [bV false, sV ⟨#[]⟩, bV false] 28]) (by kernel_rfl) rfl (by kernel_rfl) (by kernel_rfl) ?_
          refine Ex'.next ?_
          refine Cd.region rfl ?_
          refine Sq.vals [0] (rest := [1, 2, 3, 4, 5, 6, 7, 8]) [pV b 0] (fun w => by kernel_rfl) ?_
          refine Sq.same [0, 1, 2, 3, 4] (l := arcL b lt1 lt2 lb1 lb2 most (if p + (if (b2.length : Int) / (b1.length : Int) > 1 then (b2.length : Int) / (b1.length : Int) else 1) < most then p + (if (b2.length : Int) / (b1.length : Int) > 1 then (b2.length : Int) / (b1.length : Int) else 1) else most) t1 t2 b1 b2 n) (o_call (by kernel_rfl) Try.call27 (arc_roomF (n := n) (n' := n + 1) (most := most) (p := (if p + (if (b2.length : Int) / (b1.length : Int) > 1 then (b2.length : Int) / (b1.length : Int) else 1) < most then p + (if (b2.length : Int) / (b1.length : Int) > 1 then (b2.length : Int) / (b1.length : Int) else 1) else most)) (t1 := t1) (t2 := t2) (b1 := b1) (b2 := b2) (by omega) (by omega))) (by kernel_rfl) rfl (by kernel_rfl) rfl ?_
          refine Sq.vals [2, 3, 4, 5] (rest := [6, 7, 8]) [.tuple #[sV ((arcRoomF most (if p + (if (b2.length : Int) / (b1.length : Int) > 1 then (b2.length : Int) / (b1.length : Int) else 1) < most then p + (if (b2.length : Int) / (b1.length : Int) > 1 then (b2.length : Int) / (b1.length : Int) else 1) else most) t1 t2 b1 b2).2.2.2.2.1), bV ((arcRoomF most (if p + (if (b2.length : Int) / (b1.length : Int) > 1 then (b2.length : Int) / (b1.length : Int) else 1) < most then p + (if (b2.length : Int) / (b1.length : Int) > 1 then (b2.length : Int) / (b1.length : Int) else 1) else most) t1 t2 b1 b2).2.2.2.2.2)], sV ((arcRoomF most (if p + (if (b2.length : Int) / (b1.length : Int) > 1 then (b2.length : Int) / (b1.length : Int) else 1) < most then p + (if (b2.length : Int) / (b1.length : Int) > 1 then (b2.length : Int) / (b1.length : Int) else 1) else most) t1 t2 b1 b2).2.2.2.2.1), bV ((arcRoomF most (if p + (if (b2.length : Int) / (b1.length : Int) > 1 then (b2.length : Int) / (b1.length : Int) else 1) < most then p + (if (b2.length : Int) / (b1.length : Int) > 1 then (b2.length : Int) / (b1.length : Int) else 1) else most) t1 t2 b1 b2).2.2.2.2.2), pV b4 1] (fun w => by kernel_rfl) ?_
          refine Sq.same [6] (l := [blkR b4 [bV false, sV ⟨#[]⟩, bV false] 28]) (o_store (i := 1) (v := sV ((arcRoomF most (if p + (if (b2.length : Int) / (b1.length : Int) > 1 then (b2.length : Int) / (b1.length : Int) else 1) < most then p + (if (b2.length : Int) / (b1.length : Int) > 1 then (b2.length : Int) / (b1.length : Int) else 1) else most) t1 t2 b1 b2).2.2.2.2.1)) (by kernel_rfl) (by kernel_rfl) (by kernel_rfl) (by kernel_rfl) (by kernel_rfl)) (by kernel_rfl) rfl (by kernel_rfl) rfl ?_
          refine Sq.vals [7] (rest := [8]) [pV b4 2] (fun w => by kernel_rfl) ?_
          refine Sq.same [6] (l := [blkR b4 [bV false, sV ((arcRoomF most (if p + (if (b2.length : Int) / (b1.length : Int) > 1 then (b2.length : Int) / (b1.length : Int) else 1) < most then p + (if (b2.length : Int) / (b1.length : Int) > 1 then (b2.length : Int) / (b1.length : Int) else 1) else most) t1 t2 b1 b2).2.2.2.2.1), bV false] 28]) (o_store (i := 2) (v := bV ((arcRoomF most (if p + (if (b2.length : Int) / (b1.length : Int) > 1 then (b2.length : Int) / (b1.length : Int) else 1) < most then p + (if (b2.length : Int) / (b1.length : Int) > 1 then (b2.length : Int) / (b1.length : Int) else 1) else most) t1 t2 b1 b2).2.2.2.2.2)) (by kernel_rfl) (by kernel_rfl) (by kernel_rfl) (by kernel_rfl) (by kernel_rfl)) (by kernel_rfl) rfl (by kernel_rfl) rfl ?_
          refine Sq.done ?_
          refine Ex'.blockNormal ?_
          refine Ex'.next ?_
          refine Cd.seq ?_
          refine Cd.seq ?_
          refine Cd.region rfl ?_
          refine Sq.vals [0, 1] (rest := []) [iV 2, bV true] (fun w => by kernel_rfl) ?_
          refine Sq.done ?_
          refine Ex'.next ?_
          refine Cd.condT (by kernel_rfl) ?_
          refine Cd.region rfl ?_
          refine Sq.vals [0, 1, 2, 3, 4] (rest := [5, 6, 7]) [pV b 0, iV 2, pV b 0, pV b 2, pV b 4] (fun w => by kernel_rfl) ?_
          refine Sq.same [0] (l := [arcB b lt1 lt2 lb1 lb2 most (if p + (if (b2.length : Int) / (b1.length : Int) > 1 then (b2.length : Int) / (b1.length : Int) else 1) < most then p + (if (b2.length : Int) / (b1.length : Int) > 1 then (b2.length : Int) / (b1.length : Int) else 1) else most)]) (o_load (i := 4) (v := pV lb1 0) (by kernel_rfl) (by kernel_rfl) (by kernel_rfl)) (by kernel_rfl) rfl (by kernel_rfl) rfl ?_
          refine Sq.vals [6] (rest := [7]) [sV key] (fun w => by kernel_rfl) ?_
          refine Sq.same [3] (l := [llR lb1 ((arcRoomF most (if p + (if (b2.length : Int) / (b1.length : Int) > 1 then (b2.length : Int) / (b1.length : Int) else 1) < most then p + (if (b2.length : Int) / (b1.length : Int) > 1 then (b2.length : Int) / (b1.length : Int) else 1) else most) t1 t2 b1 b2).2.2.1) (n + 1)]) (o_call (by kernel_rfl) Try.call29 (t_Remove (ks := (arcRoomF most (if p + (if (b2.length : Int) / (b1.length : Int) > 1 then (b2.length : Int) / (b1.length : Int) else 1) < most then p + (if (b2.length : Int) / (b1.length : Int) > 1 then (b2.length : Int) / (b1.length : Int) else 1) else most) t1 t2 b1 b2).2.2.1) (n := n + 1) key (by omega))) (by kernel_rfl) rfl (by kernel_rfl) rfl ?_
          refine Sq.done ?_
          refine Ex'.next ?_
          refine Cd.seq ?_
          refine Cd.region rfl ?_
          refine Sq.vals [0, 1, 2, 3, 4] (rest := [5, 6, 7]) [pV b 0, iV 1, pV b 0, pV b 2, pV b 3] (fun w => by kernel_rfl) ?_
          refine Sq.same [0] (l := [arcB b lt1 lt2 lb1 lb2 most (if p + (if (b2.length : Int) / (b1.length : Int) > 1 then (b2.length : Int) / (b1.length : Int) else 1) < most then p + (if (b2.length : Int) / (b1.length : Int) > 1 then (b2.length : Int) / (b1.length : Int) else 1) else most)]) (o_load (i := 3) (v := pV lt2 0) (by kernel_rfl) (by kernel_rfl) (by kernel_rfl)) (by kernel_rfl) rfl (by kernel_rfl) rfl ?_
          refine Sq.vals [6] (rest := [7]) [sV key] (fun w => by kernel_rfl) ?_
          refine Sq.same [2] (l := [llR lt2 ((arcRoomF most (if p + (if (b2.length : Int) / (b1.length : Int) > 1 then (b2.length : Int) / (b1.length : Int) else 1) < most then p + (if (b2.length : Int) / (b1.length : Int) > 1 then (b2.length : Int) / (b1.length : Int) else 1) else most) t1 t2 b1 b2).2.1) (n + 1)]) (o_call (by kernel_rfl) Try.call30 (t_Front (ks := (arcRoomF most (if p + (if (b2.length : Int) / (b1.length : Int) > 1 then (b2.length : Int) / (b1.length : Int) else 1) < most then p + (if (b2.length : Int) / (b1.length : Int) > 1 then (b2.length : Int) / (b1.length : Int) else 1) else most) t1 t2 b1 b2).2.1) (n := n + 1) key (by omega))) (by kernel_rfl) rfl (by kernel_rfl) rfl ?_
          refine Sq.done ?_
          refine Ex'.next ?_
          refine Cd.seq ?_
          refine Cd.region rfl ?_
          refine Sq.same [6] (l := [blkR b4 [bV false, sV ((arcRoomF most (if p + (if (b2.length : Int) / (b1.length : Int) > 1 then (b2.length : Int) / (b1.length : Int) else 1) < most then p + (if (b2.length : Int) / (b1.length : Int) > 1 then (b2.length : Int) / (b1.length : Int) else 1) else most) t1 t2 b1 b2).2.2.2.2.1), bV ((arcRoomF most (if p + (if (b2.length : Int) / (b1.length : Int) > 1 then (b2.length : Int) / (b1.length : Int) else 1) < most then p + (if (b2.length : Int) / (b1.length : Int) > 1 then (b2.length : Int) / (b1.length : Int) else 1) else most) t1 t2 b1 b2).2.2.2.2.2)] 28]) (o_loadN (i := 0) [bV false, sV ((arcRoomF most (if p + (if (b2.length : Int) / (b1.length : Int) > 1 then (b2.length : Int) / (b1.length : Int) else 1) < most then p + (if (b2.length : Int) / (b1.length : Int) > 1 then (b2.length : Int) / (b1.length : Int) else 1) else most) t1 t2 b1 b2).2.2.2.2.1), bV ((arcRoomF most (if p + (if (b2.length : Int) / (b1.length : Int) > 1 then (b2.length : Int) / (b1.length : Int) else 1) < most then p + (if (b2.length : Int) / (b1.length : Int) > 1 then (b2.length : Int) / (b1.length : Int) else 1) else most) t1 t2 b1 b2).2.2.2.2.2)] (by kernel_rfl) (by kernel_rfl) (by kernel_rfl)) (by kernel_rfl) rfl (by kernel_rfl) rfl ?_
          refine Sq.same [5] (l := [blkR b3 [bV false, sV ⟨#[]⟩, bV false] 28]) (o_store (i := 0) (v := .agg #[bV false, sV ((arcRoomF most (if p + (if (b2.length : Int) / (b1.length : Int) > 1 then (b2.length : Int) / (b1.length : Int) else 1) < most then p + (if (b2.length : Int) / (b1.length : Int) > 1 then (b2.length : Int) / (b1.length : Int) else 1) else most) t1 t2 b1 b2).2.2.2.2.1), bV ((arcRoomF most (if p + (if (b2.length : Int) / (b1.length : Int) > 1 then (b2.length : Int) / (b1.length : Int) else 1) < most then p + (if (b2.length : Int) / (b1.length : Int) > 1 then (b2.length : Int) / (b1.length : Int) else 1) else most) t1 t2 b1 b2).2.2.2.2.2)]) (by kernel_rfl) (by kernel_rfl) (by kernel_rfl) (by kernel_rfl) (by kernel_rfl)) (by kernel_rfl) rfl (by kernel_rfl) rfl ?_
          refine Sq.done ?_
          refine Ex'.next ?_
          refine Cd.ret ?_
          refine Ex'.ret Try.results10 (RVs.cellN (i := 0) (b := b3) (l := [bV false, sV ((arcRoomF most (if p + (if (b2.length : Int) / (b1.length : Int) > 1 then (b2.length : Int) / (b1.length : Int) else 1) < most then p + (if (b2.length : Int) / (b1.length : Int) > 1 then (b2.length : Int) / (b1.length : Int) else 1) else most) t1 t2 b1 b2).2.2.2.2.1), bV ((arcRoomF most (if p + (if (b2.length : Int) / (b1.length : Int) > 1 then (b2.length : Int) / (b1.length : Int) else 1) < most then p + (if (b2.length : Int) / (b1.length : Int) > 1 then (b2.length : Int) / (b1.length : Int) else 1) else most) t1 t2 b1 b2).2.2.2.2.2)]) (E := 28) [bV false, sV ((arcRoomF most (if p + (if (b2.length : Int) / (b1.length : Int) > 1 then (b2.length : Int) / (b1.length : Int) else 1) < most then p + (if (b2.length : Int) / (b1.length : Int) > 1 then (b2.length : Int) / (b1.length : Int) else 1) else most) t1 t2 b1 b2).2.2.2.2.1), bV ((arcRoomF most (if p + (if (b2.length : Int) / (b1.length : Int) > 1 then (b2.length : Int) / (b1.length : Int) else 1) < most then p + (if (b2.length : Int) / (b1.length : Int) > 1 then (b2.length : Int) / (b1.length : Int) else 1) else most) t1 t2 b1 b2).2.2.2.2.2)] 5 (by kernel_rfl) (by kernel_rfl) (by kernel_rfl) (by kernel_rfl) (RVs.nil)) (fun w hw => ?_)
          have e : arcReq most p t1 t2 b1 b2 key = ((if p + (if (b2.length : Int) / (b1.length : Int) > 1 then (b2.length : Int) / (b1.length : Int) else 1) < most then p + (if (b2.length : Int) / (b1.length : Int) > 1 then (b2.length : Int) / (b1.length : Int) else 1) else most), (arcRoomF most (if p + (if (b2.length : Int) / (b1.length : Int) > 1 then (b2.length : Int) / (b1.length : Int) else 1) < most then p + (if (b2.length : Int) / (b1.length : Int) > 1 then (b2.length : Int) / (b1.length : Int) else 1) else most) t1 t2 b1 b2).1, fr ((arcRoomF most (if p + (if (b2.length : Int) / (b1.length : Int) > 1 then (b2.length : Int) / (b1.length : Int) else 1) < most then p + (if (b2.length : Int) / (b1.length : Int) > 1 then (b2.length : Int) / (b1.length : Int) else 1) else most) t1 t2 b1 b2).2.1) key, rm ((arcRoomF most (if p + (if (b2.length : Int) / (b1.length : Int) > 1 then (b2.length : Int) / (b1.length : Int) else 1) < most then p + (if (b2.length : Int) / (b1.length : Int) > 1 then (b2.length : Int) / (b1.length : Int) else 1) else most) t1 t2 b1 b2).2.2.1) key, (arcRoomF most (if p + (if (b2.length : Int) / (b1.length : Int) > 1 then (b2.length : Int) / (b1.length : Int) else 1) < most then p + (if (b2.length : Int) / (b1.length : Int) > 1 then (b2.length : Int) / (b1.length : Int) else 1) else most) t1 t2 b1 b2).2.2.2.1, false, (arcRoomF most (if p + (if (b2.length : Int) / (b1.length : Int) > 1 then (b2.length : Int) / (b1.length : Int) else 1) < most then p + (if (b2.length : Int) / (b1.length : Int) > 1 then (b2.length : Int) / (b1.length : Int) else 1) else most) t1 t2 b1 b2).2.2.2.2.1, (arcRoomF most (if p + (if (b2.length : Int) / (b1.length : Int) > 1 then (b2.length : Int) / (b1.length : Int) else 1) < most then p + (if (b2.length : Int) / (b1.length : Int) > 1 then (b2.length : Int) / (b1.length : Int) else 1) else most) t1 t2 b1 b2).2.2.2.2.2) := by unfold arcReq; rw [if_neg h5, if_neg h7, if_pos h9, if_neg h10]
          rw [e]
          exact ⟨_, ⟨rfl, rfl⟩, ((((hw.conv 1 (R := llR lt1 ((arcRoomF most (if p + (if (b2.length : Int) / (b1.length : Int) > 1 then (b2.length : Int) / (b1.length : Int) else 1) < most then p + (if (b2.length : Int) / (b1.length : Int) > 1 then (b2.length : Int) / (b1.length : Int) else 1) else most) t1 t2 b1 b2).1) (n + 1)) (R' := llR lt1 ((arcRoomF most (if p + (if (b2.length : Int) / (b1.length : Int) > 1 then (b2.length : Int) / (b1.length : Int) else 1) < most then p + (if (b2.length : Int) / (b1.length : Int) > 1 then (b2.length : Int) / (b1.length : Int) else 1) else most) t1 t2 b1 b2).1) n') (by kernel_rfl) (llR.up (by omega))).conv 2 (R := llR lt2 (fr ((arcRoomF most (if p + (if (b2.length : Int) / (b1.length : Int) > 1 then (b2.length : Int) / (b1.length : Int) else 1) < most then p + (if (b2.length : Int) / (b1.length : Int) > 1 then (b2.length : Int) / (b1.length : Int) else 1) else most) t1 t2 b1 b2).2.1) key) (n + 2)) (R' := llR lt2 (fr ((arcRoomF most (if p + (if (b2.length : Int) / (b1.length : Int) > 1 then (b2.length : Int) / (b1.length : Int) else 1) < most then p + (if (b2.length : Int) / (b1.length : Int) > 1 then (b2.length : Int) / (b1.length : Int) else 1) else most) t1 t2 b1 b2).2.1) key) n') (by kernel_rfl) (llR.up (by omega))).conv 3 (R := llR lb1 (rm ((arcRoomF most (if p + (if (b2.length : Int) / (b1.length : Int) > 1 then (b2.length : Int) / (b1.length : Int) else 1) < most then p + (if (b2.length : Int) / (b1.length : Int) > 1 then (b2.length : Int) / (b1.length : Int) else 1) else most) t1 t2 b1 b2).2.2.1) key) (n + 1)) (R' := llR lb1 (rm ((arcRoomF most (if p + (if (b2.length : Int) / (b1.length : Int) > 1 then (b2.length : Int) / (b1.length : Int) else 1) < most then p + (if (b2.length : Int) / (b1.length : Int) > 1 then (b2.length : Int) / (b1.length : Int) else 1) else most) t1 t2 b1 b2).2.2.1) key) n') (by kernel_rfl) (llR.up (by omega))).conv 4 (R := llR lb2 ((arcRoomF most (if p + (if (b2.length : Int) / (b1.length : Int) > 1 then (b2.length : Int) / (b1.length : Int) else 1) < most then p + (if (b2.length : Int) / (b1.length : Int) > 1 then (b2.length : Int) / (b1.length : Int) else 1) else most) t1 t2 b1 b2).2.2.2.1) (n + 1)) (R' := llR lb2 ((arcRoomF most (if p + (if (b2.length : Int) / (b1.length : Int) > 1 then (b2.length : Int) / (b1.length : Int) else 1) < most then p + (if (b2.length : Int) / (b1.length : Int) > 1 then (b2.length : Int) / (b1.length : Int) else 1) else most) t1 t2 b1 b2).2.2.2.1) n') (by kernel_rfl) (llR.up (by omega))).pickB [0, 1, 2, 3, 4] (by kernel_rfl) (by kernel_rfl) (by kernel_rfl)⟩
      ·
        by_cases h11 : key ∈ b2
        ·
          have hpos := List.length_pos_of_mem h11
          have hq := q_bound (a := (b1.length : Int)) (b := (b2.length : Int)) (by omega) (by omega)
          refine Sq.same [0, 1, 2, 3, 4] (l := arcL b lt1 lt2 lb1 lb2 most p t1 t2 b1 b2 n) (o_call (by kernel_rfl) Try.call25 (arc_at3 (n := n) (most := most) (p := p) (t1 := t1) (t2 := t2) (b1 := b1) (b2 := b2) key (by omega) h5 h7 h9 h11)) (by kernel_rfl) rfl (by kernel_rfl) rfl ?_
          refine Sq.vals [3] (rest := []) [iV 3] (fun w => by kernel_rfl) ?_
          refine Sq.done ?_
          refine Ex'.next ?_
          refine Cd.seq ?_
          refine Cd.region rfl ?_
          refine Sq.vals [0] (rest := []) [iV 1] (fun w => by kernel_rfl) ?_
          refine Sq.done ?_
          refine Ex'.next ?_
          refine Cd.seq ?_
          refine Cd.block ?_
          refine Cd.seq ?_
          refine Cd.region rfl ?_
          refine Sq.vals [0, 1, 2] (rest := [3, 4, 5]) [pV b 0, pV b 0, pV b 0] (fun w => by kernel_rfl) ?_
          refine Sq.same [0] (l := [arcB b lt1 lt2 lb1 lb2 most p]) (o_load (i := 0) (v := iV most) (by kernel_rfl) (by kernel_rfl) (by kernel_rfl)) (by kernel_rfl) rfl (by kernel_rfl) rfl ?_
          refine Sq.v (r := bV (decide (most = 0))) (o_eqI (k := .i64) (a := most) (b := 0) (by kernel_rfl) (by kernel_rfl)) rfl (by kernel_rfl) ?_
          refine Sq.vals [5] (rest := []) [bV (decide (most = 0))] (fun w => by kernel_rfl) ?_
          refine Sq.done ?_
          refine Ex'.next ?_
          refine Cd.case (p := most = 0) (by kernel_rfl) (fun h12 => ?_) (fun h12 => ?_)
          ·
            refine Cd.seq ?_
            refine Cd.region rfl ?_
            refine Sq.vals [0, 1, 2] (rest := [3]) [iV 3, bV false, .agg #[bV false, sV ⟨#[]⟩, bV false]] (fun w => by kernel_rfl) ?_
            refine Sq.same [5] (l := [blkR b3 [bV false, sV ⟨#[]⟩, bV false] 28]) (o_store (i := 0) (v := .agg #[bV false, sV ⟨#[]⟩, bV false]) (by kernel_rfl) (by kernel_rfl) (by kernel_rfl) (by kernel_rfl) (by kernel_rfl)) (by kernel_rfl) rfl (by kernel_rfl) rfl ?_
            refine Sq.done ?_
            refine Ex'.next ?_
            refine Cd.ret ?_
            refine Ex'.blockRet ?_
            refine Ex'.thenRet ?_
            refine Ex'.ret Try.results10 (RVs.cellN (i := 0) (b := b3) (l := [bV false, sV ⟨#[]⟩, bV false]) (E := 28) [bV false, sV ⟨#[]⟩, bV false] 5 (by kernel_rfl) (by kernel_rfl) (by kernel_rfl) (by kernel_rfl) (RVs.nil)) (fun w hw => ?_)
            have e : arcReq most p t1 t2 b1 b2 key = (p, t1, t2, b1, b2, false, ⟨#[]⟩, false) := by unfold arcReq; rw [if_neg h5, if_neg h7, if_neg h9, if_pos h11, if_pos h12]
            rw [e]
            exact ⟨_, ⟨rfl, rfl⟩, ((((hw.conv 1 (R := llR lt1 t1 n) (R' := llR lt1 t1 n') (by kernel_rfl) (llR.up (by omega))).conv 2 (R := llR lt2 t2 n) (R' := llR lt2 t2 n') (by kernel_rfl) (llR.up (by omega))).conv 3 (R := llR lb1 b1 n) (R' := llR lb1 b1 n') (by kernel_rfl) (llR.up (by omega))).conv 4 (R := llR lb2 b2 n) (R' := llR lb2 b2 n') (by kernel_rfl) (llR.up (by omega))).pickB [0, 1, 2, 3, 4] (by kernel_rfl) (by kernel_rfl) (by kernel_rfl)⟩
          ·
            refine Cd.seq ?_
            refine Cd.region rfl ?_
            refine Sq.vals [0, 1, 2] (rest := []) [iV 3, bV false, bV false] (fun w => by kernel_rfl) ?_
            refine Sq.done ?_
            refine Ex'.next ?_
            refine Cd.condF (by kernel_rfl) ?_
            refine Cd.seq ?_
            refine Cd.region rfl ?_
            refine Sq.vals [0, 1, 2] (rest := []) [iV 3, bV false, bV false] (fun w => by kernel_rfl) ?_
            refine Sq.done ?_
            refine Ex'.next ?_
            refine Cd.condF (by kernel_rfl) ?_
            refine Cd.seq ?_
            refine Cd.region rfl ?_
            refine Sq.vals [0, 1, 2] (rest := []) [iV 3, bV true, bV true] (fun w => by kernel_rfl) ?_
            refine Sq.done ?_
            refine Ex'.next ?_
            refine Cd.condT (by kernel_rfl) ?_
            refine Cd.seq ?_
            refine Cd.plan (0 :: 0 :: 2 :: 6 :: 14 :: 0 :: 32 :: 96 :: 224 :: 480 :: 992 :: 0 :: 2048 :: 6144 :: 14336 :: 30720 :: 65504 :: 131040 :: 262112 :: 524286 :: 1048574 :: 2097151 :: 4194303 :: 8388607 :: []) [(4, [(0, false, 0)]), (9, [(0, false, 0)]), (10, [(3, false, 0)]), (15, [(0, false, 0)]), (16, [(4, false, 0)]), (23, [(0, true, 0)])] [] [] [(0, 23, fun g => arcB b lt1 lt2 lb1 lb2 most (if p - (if (b1.length : Int) / (b2.length : Int) > 1 then (b1.length : Int) / (b2.length : Int) else 1) > 0 then p - (if (b1.length : Int) / (b2.length : Int) > 1 then (b1.length : Int) / (b2.length : Int) else 1) else 0))] ((fun g => pV b 0) :: (fun g => pV b 0) :: (fun g => pV b 0) :: (fun g => pV b 1) :: (fun g => iV p) :: (fun g => pV b 0) :: (fun g => pV b 0) :: (fun g => pV b 2) :: (fun g => pV b 4) :: (fun g => pV lb1 0) :: (fun g => iV (b1.length : Int)) :: (fun g => pV b 0) :: (fun g => pV b 0) :: (fun g => pV b 2) :: (fun g => pV b 5) :: (fun g => pV lb2 0) :: (fun g => iV (b2.length : Int)) :: (fun g => iV ((b1.length : Int) / (b2.length : Int))) :: (fun g => iV (if (b1.length : Int) / (b2.length : Int) > 1 then (b1.length : Int) / (b2.length : Int) else 1)) :: (fun g => iV (p - (if (b1.length : Int) / (b2.length : Int) > 1 then (b1.length : Int) / (b2.length : Int) else 1))) :: (fun g => iV (if p - (if (b1.length : Int) / (b2.length : Int) > 1 then (b1.length : Int) / (b2.length : Int) else 1) > 0 then p - (if (b1.length : Int) / (b2.length : Int) > 1 then (b1.length : Int) / (b2.length : Int) else 1) else 0)) :: (fun g => pV b 0) :: (fun g => pV b 1) :: (fun g => undef) :: []) (by kernel_rfl) (by kernel_rfl) rfl (trivial) ?_ ?_
            · exact ⟨ob_val fun g w => by kernel_rfl, ob_val fun g w => by kernel_rfl, ob_val fun g w => by kernel_rfl, ob_val fun g w => by kernel_rfl, ob_s (l := fun g => [arcB b lt1 lt2 lb1 lb2 most p]) (l' := fun g => [arcB b lt1 lt2 lb1 lb2 most p]) (v := fun g => iV p) (fun g => o_load (i := 1) (v := iV p) (by kernel_rfl) (by kernel_rfl) (by kernel_rfl)) (fun g => by kernel_rfl), ob_val fun g w => by kernel_rfl, ob_val fun g w => by kernel_rfl, ob_val fun g w => by kernel_rfl, ob_val fun g w => by kernel_rfl, ob_s (l := fun g => [arcB b lt1 lt2 lb1 lb2 most p]) (l' := fun g => [arcB b lt1 lt2 lb1 lb2 most p]) (v := fun g => pV lb1 0) (fun g => o_load (i := 4) (v := pV lb1 0) (by kernel_rfl) (by kernel_rfl) (by kernel_rfl)) (fun g => by kernel_rfl), ob_s (l := fun g => [llR lb1 b1 n]) (l' := fun g => [llR lb1 b1 n]) (v := fun g => iV (b1.length : Int)) (fun g => o_call (by kernel_rfl) Try.call26 (t_Len (ks := b1) (n := n))) (fun g => by kernel_rfl), ob_val fun g w => by kernel_rfl, ob_val fun g w => by kernel_rfl, ob_val fun g w => by kernel_rfl, ob_val fun g w => by kernel_rfl, ob_s (l := fun g => [arcB b lt1 lt2 lb1 lb2 most p]) (l' := fun g => [arcB b lt1 lt2 lb1 lb2 most p]) (v := fun g => pV lb2 0) (fun g => o_load (i := 5) (v := pV lb2 0) (by kernel_rfl) (by kernel_rfl) (by kernel_rfl)) (fun g => by kernel_rfl), ob_s (l := fun g => [llR lb2 b2 n]) (l' := fun g => [llR lb2 b2 n]) (v := fun g => iV (b2.length : Int)) (fun g => o_call (by kernel_rfl) Try.call26 (t_Len (ks := b2) (n := n))) (fun g => by kernel_rfl), ob_v (v := fun g => iV ((b1.length : Int) / (b2.length : Int))) (fun g => o_quo (k := .i64) (a := (b1.length : Int)) (b := (b2.length : Int)) (c := (b1.length : Int) / (b2.length : Int)) (by kernel_rfl) (by kernel_rfl) (by omega) (w64 (Int.tdiv_eq_ediv_of_nonneg (by omega)) (q_range (a := (b1.length : Int)) (b := (b2.length : Int)) (by omega) (by omega) (by omega)))) (fun g => by kernel_rfl), ob_val fun g w => by kernel_rfl, ob_v (v := fun g => iV (p - (if (b1.length : Int) / (b2.length : Int) > 1 then (b1.length : Int) / (b2.length : Int) else 1))) (fun g => o_sub (k := .i64) (a := p) (b := (if (b1.length : Int) / (b2.length : Int) > 1 then (b1.length : Int) / (b2.length : Int) else 1)) (c := p - (if (b1.length : Int) / (b2.length : Int) > 1 then (b1.length : Int) / (b2.length : Int) else 1)) (by kernel_rfl) (by kernel_rfl) (w64 rfl (by omega))) (fun g => by kernel_rfl), ob_val fun g w => by kernel_rfl, ob_val fun g w => by kernel_rfl, ob_val fun g w => by kernel_rfl, ob_s (l := fun g => [arcB b lt1 lt2 lb1 lb2 most p]) (l' := fun g => [arcB b lt1 lt2 lb1 lb2 most (if p - (if (b1.length : Int) / (b2.length : Int) > 1 then (b1.length : Int) / (b2.length : Int) else 1) > 0 then p - (if (b1.length : Int) / (b2.length : Int) > 1 then (b1.length : Int) / (b2.length : Int) else 1) else 0)]) (v := fun g => undef) (fun g => o_store (i := 1) (v := iV (if p - (if (b1.length : Int) / (b2.length : Int) > 1 then (b1.length : Int) / (b2.length : Int) else 1) > 0 then p - (if (b1.length : Int) / (b2.length : Int) > 1 then (b1.length : Int) / (b2.length : Int) else 1) else 0)) (by kernel_rfl) (by kernel_rfl) (by kernel_rfl) (by kernel_rfl) (by kernel_rfl)) (fun g => by kernel_rfl), trivial⟩
            intro g
            refine Ex'.sub (subB_spec [0, 1, 4, 5, 6, 7]) ?_
            refine Ex'.as [0, 1, 2, 3, 4, 5, 6] (σ' := [(0, pV b 0), (1, sV key), (4, pV b3 0), (5, pV b4 0), (6, iV 3), (7, iV 1)]) (Γ' := [arcB b lt1 lt2 lb1 lb2 most (if p - (if (b1.length : Int) / (b2.length : Int) > 1 then (b1.length : Int) / (b2.length : Int) else 1) > 0 then p - (if (b1.length : Int) / (b2.length : Int) > 1 then (b1.length : Int) / (b2.length : Int) else 1) else 0), llR lt1 t1 n, llR lt2 t2 n, llR lb1 b1 n, llR lb2 b2 n, blkR b3 [bV false, sV ⟨#[]⟩, bV false] 28, blkR b4 [bV false, sV ⟨#[]⟩, bV false] 28]) (by kernel_rfl) rfl (by kernel_rfl) (by kernel_rfl) ?_
            refine Ex'.next ?_
            refine Cd.region rfl ?_
            refine Sq.vals [0] (rest := [1, 2, 3, 4, 5, 6, 7, 8]) [pV b 0] (fun w => by kernel_rfl) ?_
            refine Sq.same [0, 1, 2, 3, 4] (l := arcL b lt1 lt2 lb1 lb2 most (if p - (if (b1.length : Int) / (b2.length : Int) > 1 then (b1.length : Int) / (b2.length : Int) else 1) > 0 then p - (if (b1.length : Int) / (b2.length : Int) > 1 then (b1.length : Int) / (b2.length : Int) else 1) else 0) t1 t2 b1 b2 n) (o_call (by kernel_rfl) Try.call27 (arc_roomT (n := n) (n' := n + 1) (most := most) (p := (if p - (if (b1.length : Int) / (b2.length : Int) > 1 then (b1.length : Int) / (b2.length : Int) else 1) > 0 then p - (if (b1.length : Int) / (b2.length : Int) > 1 then (b1.length : Int) / (b2.length : Int) else 1) else 0)) (t1 := t1) (t2 := t2) (b1 := b1) (b2 := b2) (by omega) (by omega))) (by kernel_rfl) rfl (by kernel_rfl) rfl ?_
            refine Sq.vals [2, 3, 4, 5] (rest := [6, 7, 8]) [.tuple #[sV ((arcRoomT most (if p - (if (b1.length : Int) / (b2.length : Int) > 1 then (b1.length : Int) / (b2.length : Int) else 1) > 0 then p - (if (b1.length : Int) / (b2.length : Int) > 1 then (b1.length : Int) / (b2.length : Int) else 1) else 0) t1 t2 b1 b2).2.2.2.2.1), bV ((arcRoomT most (if p - (if (b1.length : Int) / (b2.length : Int) > 1 then (b1.length : Int) / (b2.length : Int) else 1) > 0 then p - (if (b1.length : Int) / (b2.length : Int) > 1 then (b1.length : Int) / (b2.length : Int) else 1) else 0) t1 t2 b1 b2).2.2.2.2.2)], sV ((arcRoomT most (if p - (if (b1.length : Int) / (b2.length : Int) > 1 then (b1.length : Int) / (b2.length : Int) else 1) > 0 then p - (if (b1.length : Int) / (b2.length : Int) > 1 then (b1.length : Int) / (b2.length : Int) else 1) else 0) t1 t2 b1 b2).2.2.2.2.1), bV ((arcRoomT most (if p - (if (b1.length : Int) / (b2.length : Int) > 1 then (b1.length : Int) / (b2.length : Int) else 1) > 0 then p - (if (b1.length : Int) / (b2.length : Int) > 1 then (b1.length : Int) / (b2.length : Int) else 1) else 0) t1 t2 b1 b2).2.2.2.2.2), pV b4 1] (fun w => by kernel_rfl) ?_
            refine Sq.same [6] (l := [blkR b4 [bV false, sV ⟨#[]⟩, bV false] 28]) (o_store (i := 1) (v := sV ((arcRoomT most (if p - (if (b1.length : Int) / (b2.length : Int) > 1 then (b1.length : Int) / (b2.length : Int) else 1) > 0 then p - (if (b1.length : Int) / (b2.length : Int) > 1 then (b1.length : Int) / (b2.length : Int) else 1) else 0) t1 t2 b1 b2).2.2.2.2.1)) (by kernel_rfl) (by kernel_rfl) (by kernel_rfl) (by kernel_rfl) (by kernel_rfl)) (by kernel_rfl) rfl (by kernel_rfl) rfl ?_
            refine Sq.vals [7] (rest := [8]) [pV b4 2] (fun w => by kernel_rfl) ?_
            refine Sq.same [6] (l := [blkR b4 [bV false, sV ((arcRoomT most (if p - (if (b1.length : Int) / (b2.length : Int) > 1 then (b1.length : Int) / (b2.length : Int) else 1) > 0 then p - (if (b1.length : Int) / (b2.length : Int) > 1 then (b1.length : Int) / (b2.length : Int) else 1) else 0) t1 t2 b1 b2).2.2.2.2.1), bV false] 28]) (o_store (i := 2) (v := bV ((arcRoomT most (if p - (if (b1.length : Int) / (b2.length : Int) > 1 then (b1.length : Int) / (b2.length : Int) else 1) > 0 then p - (if (b1.length : Int) / (b2.length : Int) > 1 then (b1.length : Int) / (b2.length : Int) else 1) else 0) t1 t2 b1 b2).2.2.2.2.2)) (by kernel_rfl) (by kernel_rfl) (by kernel_rfl) (by kernel_rfl) (by kernel_rfl)) (by kernel_rfl) rfl (by kernel_rfl) rfl ?_
            refine Sq.done ?_
            refine Ex'.blockNormal ?_
            refine Ex'.next ?_
            refine Cd.seq ?_
            refine Cd.seq ?_
            refine Cd.region rfl ?_
            refine Sq.vals [0, 1] (rest := []) [iV 3, bV true] (fun w => by kernel_rfl) ?_
            refine Sq.done ?_
            refine Ex'.next ?_
            refine Cd.condT (by kernel_rfl) ?_
            refine Cd.region rfl ?_
            refine Sq.vals [0, 1, 2, 3, 4] (rest := [5, 6, 7]) [pV b 0, iV 3, pV b 0, pV b 2, pV b 5] (fun w => by kernel_rfl) ?_
            refine Sq.same [0] (l := [arcB b lt1 lt2 lb1 lb2 most (if p - (if (b1.length : Int) / (b2.length : Int) > 1 then (b1.length : Int) / (b2.length : Int) else 1) > 0 then p - (if (b1.length : Int) / (b2.length : Int) > 1 then (b1.length : Int) / (b2.length : Int) else 1) else 0)]) (o_load (i := 5) (v := pV lb2 0) (by kernel_rfl) (by kernel_rfl) (by kernel_rfl)) (by kernel_rfl) rfl (by kernel_rfl) rfl ?_
            refine Sq.vals [6] (rest := [7]) [sV key] (fun w => by kernel_rfl) ?_
            refine Sq.same [4] (l := [llR lb2 ((arcRoomT most (if p - (if (b1.length : Int) / (b2.length : Int) > 1 then (b1.length : Int) / (b2.length : Int) else 1) > 0 then p - (if (b1.length : Int) / (b2.length : Int) > 1 then (b1.length : Int) / (b2.length : Int) else 1) else 0) t1 t2 b1 b2).2.2.2.1) (n + 1)]) (o_call (by kernel_rfl) Try.call29 (t_Remove (ks := (arcRoomT most (if p - (if (b1.length : Int) / (b2.length : Int) > 1 then (b1.length : Int) / (b2.length : Int) else 1) > 0 then p - (if (b1.length : Int) / (b2.length : Int) > 1 then (b1.length : Int) / (b2.length : Int) else 1) else 0) t1 t2 b1 b2).2.2.2.1) (n := n + 1) key (by omega))) (by kernel_rfl) rfl (by kernel_rfl) rfl ?_
            refine Sq.done ?_
            refine Ex'.next ?_
            refine Cd.seq ?_
            refine Cd.region rfl ?_
            refine Sq.vals [0, 1, 2, 3, 4] (rest := [5, 6, 7]) [pV b 0, iV 1, pV b 0, pV b 2, pV b 3] (fun w => by kernel_rfl) ?_
            refine Sq.same [0] (l := [arcB b lt1 lt2 lb1 lb2 most (if p - (if (b1.length : Int) / (b2.length : Int) > 1 then (b1.length : Int) / (b2.length : Int) else 1) > 0 then p - (if (b1.length : Int) / (b2.length : Int) > 1 then (b1.length : Int) / (b2.length : Int) else 1) else 0)]) (o_load (i := 3) (v := pV lt2 0) (by kernel_rfl) (by kernel_rfl) (by kernel_rfl)) (by kernel_rfl) rfl (by kernel_rfl) rfl ?_
            refine Sq.vals [6] (rest := [7]) [sV key] (fun w => by kernel_rfl) ?_
            refine Sq.same [2] (l := [llR lt2 ((arcRoomT most (if p - (if (b1.length : Int) / (b2.length : Int) > 1 then (b1.length : Int) / (b2.length : Int) else 1) > 0 then p - (if (b1.length : Int) / (b2.length : Int) > 1 then (b1.length : Int) / (b2.length : Int) else 1) else 0) t1 t2 b1 b2).2.1) (n + 1)]) (o_call (by kernel_rfl) Try.call30 (t_Front (ks := (arcRoomT most (if p - (if (b1.length : Int) / (b2.length : Int) > 1 then (b1.length : Int) / (b2.length : Int) else 1) > 0 then p - (if (b1.length : Int) / (b2.length : Int) > 1 then (b1.length : Int) / (b2.length : Int) else 1) else 0) t1 t2 b1 b2).2.1) (n := n + 1) key (by omega))) (by kernel_rfl) rfl (by kernel_rfl) rfl ?_
            refine Sq.done ?_
            refine Ex'.next ?_
            refine Cd.seq ?_
            refine Cd.region rfl ?_
            refine Sq.same [6] (l := [blkR b4 [bV false, sV ((arcRoomT most (if p - (if (b1.length : Int) / (b2.length : Int) > 1 then (b1.length : Int) / (b2.length : Int) else 1) > 0 then p - (if (b1.length : Int) / (b2.length : Int) > 1 then (b1.length : Int) / (b2.length : Int) else 1) else 0) t1 t2 b1 b2).2.2.2.2.1), bV ((arcRoomT most (if p - (if (b1.length : Int) / (b2.length : Int) > 1 then (b1.length : Int) / (b2.length : Int) else 1) > 0 then p - (if (b1.length : Int) / (b2.length : Int) > 1 then (b1.length : Int) / (b2.length : Int) else 1) else 0) t1 t2 b1 b2).2.2.2.2.2)] 28]) (o_loadN (i := 0) [bV false, sV ((arcRoomT most (if p - (if (b1.length : Int) / (b2.length : Int) > 1 then (b1.length : Int) / (b2.length : Int) else 1) > 0 then p - (if (b1.length : Int) / (b2.length : Int) > 1 then (b1.length : Int) / (b2.length : Int) else 1) else 0) t1 t2 b1 b2).2.2.2.2.1), bV ((arcRoomT most (if p - (if (b1.length : Int) / (b2.length : Int) > 1 then (b1.length : Int) / (b2.length : Int) else 1) > 0 then p - (if (b1.length : Int) / (b2.length : Int) > 1 then (b1.length : Int) / (b2.length : Int) else 1) else 0) t1 t2 b1 b2).2.2.2.2.2)] (by kernel_rfl) (by kernel_rfl) (by kernel_rfl)) (by kernel_rfl) rfl (by kernel_rfl) rfl ?_
            refine Sq.same [5] (l := [blkR b3 [bV false, sV ⟨#[]⟩, bV false] 28]) (o_store (i := 0) (v := .agg #[bV false, sV ((arcRoomT most (if p - (if (b1.length : Int) / (b2.length : Int) > 1 then (b1.length : Int) / (b2.length : Int) else 1) > 0 then p - (if (b1.length : Int) / (b2.length : Int) > 1 then (b1.length : Int) / (b2.length : Int) else 1) else 0) t1 t2 b1 b2).2.2.2.2.1), bV ((arcRoomT most (if p - (if (b1.length : Int) / (b2.length : Int) > 1 then (b1.length : Int) / (b2.length : Int) else 1) > 0 then p - (if (b1.length : Int) / (b2.length : Int) > 1 then (b1.length : Int) / (b2.length : Int) else 1) else 0) t1 t2 b1 b2).2.2.2.2.2)]) (by kernel_rfl) (by kernel_rfl) (by kernel_rfl) (by kernel_rfl) (by kernel_rfl)) (by kernel_rfl) rfl (by kernel_rfl) rfl ?_
            refine Sq.done ?_
            refine Ex'.next ?_
            refine Cd.ret ?_
            refine Ex'.ret Try.results10 (RVs.cellN (i := 0) (b := b3) (l := [bV false, sV ((arcRoomT most (if p - (if (b1.length : Int) / (b2.length : Int) > 1 then (b1.length : Int) / (b2.length : Int) else 1) > 0 then p - (if (b1.length : Int) / (b2.length : Int) > 1 then (b1.length : Int) / (b2.length : Int) else 1) else 0) t1 t2 b1 b2).2.2.2.2.1), bV ((arcRoomT most (if p - (if (b1.length : Int) / (b2.length : Int) > 1 then (b1.length : Int) / (b2.length : Int) else 1) > 0 then p - (if (b1.length : Int) / (b2.length : Int) > 1 then (b1.length : Int) / (b2.length : Int) else 1) else 0) t1 t2 b1 b2).2.2.2.2.2)]) (E := 28) [bV false, sV ((arcRoomT most (if p - (if (b1.length : Int) / (b2.length : Int) > 1 then (b1.length : Int) / (b2.length : Int) else 1) > 0 then p - (if (b1.length : Int) / (b2.length : Int) > 1 then (b1.length : Int) / (b2.length : Int) else 1) else 0) t1 t2 b1 b2).2.2.2.2.1), bV ((arcRoomT most (if p - (if (b1.length : Int) / (b2.length : Int) > 1 then (b1.length : Int) / (b2.length : Int) else 1) > 0 then p - (if (b1.length : Int) / (b2.length : Int) > 1 then (b1.length : Int) / (b2.length : Int) else 1) else 0) t1 t2 b1 b2).2.2.2.2.2)] 5 (by kernel_rfl) (by kernel_rfl) (by kernel_rfl) (by kernel_rfl) (RVs.nil)) (fun w hw => ?_)
            have e : arcReq most p t1 t2 b1 b2 key = ((if p - (if (b1.length : Int) / (b2.length : Int) > 1 then (b1.length : Int) / (b2.length : Int) else 1) > 0 then p - (if (b1.length : Int) / (b2.length : Int) > 1 then (b1.length : Int) / (b2.length : Int) else 1) else 0), (arcRoomT most (if p - (if (b1.length : Int) / (b2.length : Int) > 1 then (b1.length : Int) / (b2.length : Int) else 1) > 0 then p - (if (b1.length : Int) / (b2.length : Int) > 1 then (b1.length : Int) / (b2.length : Int) else 1) else 0) t1 t2 b1 b2).1, fr ((arcRoomT most (if p - (if (b1.length : Int) / (b2.length : Int) > 1 then (b1.length : Int) / (b2.length : Int) else 1) > 0 then p - (if (b1.length : Int) / (b2.length : Int) > 1 then (b1.length : Int) / (b2.length : Int) else 1) else 0) t1 t2 b1 b2).2.1) key, (arcRoomT most (if p - (if (b1.length : Int) / (b2.length : Int) > 1 then (b1.length : Int) / (b2.length : Int) else 1) > 0 then p - (if (b1.length : Int) / (b2.length : Int) > 1 then (b1.length : Int) / (b2.length : Int) else 1) else 0) t1 t2 b1 b2).2.2.1, rm ((arcRoomT most (if p - (if (b1.length : Int) / (b2.length : Int) > 1 then (b1.length : Int) / (b2.length : Int) else 1) > 0 then p - (if (b1.length : Int) / (b2.length : Int) > 1 then (b1.length : Int) / (b2.length : Int) else 1) else 0) t1 t2 b1 b2).2.2.2.1) key, false, (arcRoomT most (if p - (if (b1.length : Int) / (b2.length : Int) > 1 then (b1.length : Int) / (b2.length : Int) else 1) > 0 then p - (if (b1.length : Int) / (b2.length : Int) > 1 then (b1.length : Int) / (b2.length : Int) else 1) else 0) t1 t2 b1 b2).2.2.2.2.1, (arcRoomT most (if p - (if (b1.length : Int) / (b2.length : Int) > 1 then (b1.length : Int) / (b2.length : Int) else 1) > 0 then p - (if (b1.length : Int) / (b2.length : Int) > 1 then (b1.length : Int) / (b2.length : Int) else 1) else 0) t1 t2 b1 b2).2.2.2.2.2) := by unfold arcReq; rw [if_neg h5, if_neg h7, if_neg h9, if_pos h11, if_neg h12]
            rw [e]
            exact ⟨_, ⟨rfl, rfl⟩, ((((hw.conv 1 (R := llR lt1 ((arcRoomT most (if p - (if (b1.length : Int) / (b2.length : Int) > 1 then (b1.length : Int) / (b2.length : Int) else 1) > 0 then p - (if (b1.length : Int) / (b2.length : Int) > 1 then (b1.length : Int) / (b2.length : Int) else 1) else 0) t1 t2 b1 b2).1) (n + 1)) (R' := llR lt1 ((arcRoomT most (if p - (if (b1.length : Int) / (b2.length : Int) > 1 then (b1.length : Int) / (b2.length : Int) else 1) > 0 then p - (if (b1.length : Int) / (b2.length : Int) > 1 then (b1.length : Int) / (b2.length : Int) else 1) else 0) t1 t2 b1 b2).1) n') (by kernel_rfl) (llR.up (by omega))).conv 2 (R := llR lt2 (fr ((arcRoomT most (if p - (if (b1.length : Int) / (b2.length : Int) > 1 then (b1.length : Int) / (b2.length : Int) else 1) > 0 then p - (if (b1.length : Int) / (b2.length : Int) > 1 then (b1.length : Int) / (b2.length : Int) else 1) else 0) t1 t2 b1 b2).2.1) key) (n + 2)) (R' := llR lt2 (fr ((arcRoomT most (if p - (if (b1.length : Int) / (b2.length : Int) > 1 then (b1.length : Int) / (b2.length : Int) else 1) > 0 then p - (if (b1.length : Int) / (b2.length : Int) > 1 then (b1.length : Int) / (b2.length : Int) else 1) else 0) t1 t2 b1 b2).2.1) key) n') (by kernel_rfl) (llR.up (by omega))).conv 3 (R := llR lb1 ((arcRoomT most (if p - (if (b1.length : Int) / (b2.length : Int) > 1 then (b1.length : Int) / (b2.length : Int) else 1) > 0 then p - (if (b1.length : Int) / (b2.length : Int) > 1 then (b1.length : Int) / (b2.length : Int) else 1) else 0) t1 t2 b1 b2).2.2.1) (n + 1)) (R' := llR lb1 ((arcRoomT most (if p - (if (b1.length : Int) / (b2.length : Int) > 1 then (b1.length : Int) / (b2.length : Int) else 1) > 0 then p - (if (b1.length : Int) / (b2.length : Int) > 1 then (b1.length : Int) / (b2.length : Int) else 1) else 0) t1 t2 b1 b2).2.2.1) n') (by kernel_rfl) (llR.up (by omega))).conv 4 (R := llR lb2 (rm ((arcRoomT most (if p - (if (b1.length : Int) / (b2.length : Int) > 1 then (b1.length : Int) / (b2.length : Int) else 1) > 0 then p - (if (b1.length : Int) / (b2.length : Int) > 1 then (b1.length : Int) / (b2.length : Int) else 1) else 0) t1 t2 b1 b2).2.2.2.1) key) (n + 1)) (R' := llR lb2 (rm ((arcRoomT most (if p - (if (b1.length : Int) / (b2.length : Int) > 1 then (b1.length : Int) / (b2.length : Int) else 1) > 0 then p - (if (b1.length : Int) / (b2.length : Int) > 1 then (b1.length : Int) / (b2.length : Int) else 1) else 0) t1 t2 b1 b2).2.2.2.1) key) n') (by kernel_rfl) (llR.up (by omega))).pickB [0, 1, 2, 3, 4] (by kernel_rfl) (by kernel_rfl) (by kernel_rfl)⟩
        ·
          refine Sq.same [0, 1, 2, 3, 4] (l := arcL b lt1 lt2 lb1 lb2 most p t1 t2 b1 b2 n) (o_call (by kernel_rfl) Try.call25 (arc_at4 (n := n) (most := most) (p := p) (t1 := t1) (t2 := t2) (b1 := b1) (b2 := b2) key (by omega) h5 h7 h9 h11)) (by kernel_rfl) rfl (by kernel_rfl) rfl ?_
          refine Sq.vals [3] (rest := []) [iV 4] (fun w => by kernel_rfl) ?_
          refine Sq.done ?_
          refine Ex'.next ?_
          refine Cd.seq ?_
          refine Cd.region rfl ?_
          refine Sq.vals [0] (rest := []) [iV 1] (fun w => by kernel_rfl) ?_
          refine Sq.done ?_
          refine Ex'.next ?_
          refine Cd.seq ?_
          refine Cd.block ?_
          refine Cd.seq ?_
          refine Cd.region rfl ?_
          refine Sq.vals [0, 1, 2] (rest := [3, 4, 5]) [pV b 0, pV b 0, pV b 0] (fun w => by kernel_rfl) ?_
          refine Sq.same [0] (l := [arcB b lt1 lt2 lb1 lb2 most p]) (o_load (i := 0) (v := iV most) (by kernel_rfl) (by kernel_rfl) (by kernel_rfl)) (by kernel_rfl) rfl (by kernel_rfl) rfl ?_
          refine Sq.v (r := bV (decide (most = 0))) (o_eqI (k := .i64) (a := most) (b := 0) (by kernel_rfl) (by kernel_rfl)) rfl (by kernel_rfl) ?_
          refine Sq.vals [5] (rest := []) [bV (decide (most = 0))] (fun w => by kernel_rfl) ?_
          refine Sq.done ?_
          refine Ex'.next ?_
          refine Cd.case (p := most = 0) (by kernel_rfl) (fun h13 => ?_) (fun h13 => ?_)
          ·
            refine Cd.seq ?_
            refine Cd.region rfl ?_
            refine Sq.vals [0, 1, 2] (rest := [3]) [iV 4, bV false, .agg #[bV false, sV ⟨#[]⟩, bV false]] (fun w => by kernel_rfl) ?_
            refine Sq.same [5] (l := [blkR b3 [bV false, sV ⟨#[]⟩, bV false] 28]) (o_store (i := 0) (v := .agg #[bV false, sV ⟨#[]⟩, bV false]) (by kernel_rfl) (by kernel_rfl) (by kernel_rfl) (by kernel_rfl) (by kernel_rfl)) (by kernel_rfl) rfl (by kernel_rfl) rfl ?_
            refine Sq.done ?_
            refine Ex'.next ?_
            refine Cd.ret ?_
            refine Ex'.blockRet ?_
            refine Ex'.thenRet ?_
            refine Ex'.ret Try.results10 (RVs.cellN (i := 0) (b := b3) (l := [bV false, sV ⟨#[]⟩, bV false]) (E := 28) [bV false, sV ⟨#[]⟩, bV false] 5 (by kernel_rfl) (by kernel_rfl) (by kernel_rfl) (by kernel_rfl) (RVs.nil)) (fun w hw => ?_)
            have e : arcReq most p t1 t2 b1 b2 key = (p, t1, t2, b1, b2, false, ⟨#[]⟩, false) := by unfold arcReq; rw [if_neg h5, if_neg h7, if_neg h9, if_neg h11, if_pos h13]
            rw [e]
            exact ⟨_, ⟨rfl, rfl⟩, ((((hw.conv 1 (R := llR lt1 t1 n) (R' := llR lt1 t1 n') (by kernel_rfl) (llR.up (by omega))).conv 2 (R := llR lt2 t2 n) (R' := llR lt2 t2 n') (by kernel_rfl) (llR.up (by omega))).conv 3 (R := llR lb1 b1 n) (R' := llR lb1 b1 n') (by kernel_rfl) (llR.up (by omega))).conv 4 (R := llR lb2 b2 n) (R' := llR lb2 b2 n') (by kernel_rfl) (llR.up (by omega))).pickB [0, 1, 2, 3, 4] (by kernel_rfl) (by kernel_rfl) (by kernel_rfl)⟩
          ·
            refine Cd.seq ?_
            refine Cd.region rfl ?_
            refine Sq.vals [0, 1, 2] (rest := []) [iV 4, bV false, bV false] (fun w => by kernel_rfl) ?_
            refine Sq.done ?_
            refine Ex'.next ?_
            refine Cd.condF (by kernel_rfl) ?_
            refine Cd.seq ?_
            refine Cd.region rfl ?_
            refine Sq.vals [0, 1, 2] (rest := []) [iV 4, bV false, bV false] (fun w => by kernel_rfl) ?_
            refine Sq.done ?_
            refine Ex'.next ?_
            refine Cd.condF (by kernel_rfl) ?_
            refine Cd.seq ?_
            refine Cd.region rfl ?_
            refine Sq.vals [0, 1, 2] (rest := []) [iV 4, bV false, bV false] (fun w => by kernel_rfl) ?_
            refine Sq.done ?_
            refine Ex'.next ?_
            refine Cd.condF (by kernel_rfl) ?_
            refine Cd.seq ?_
            refine Cd.region rfl ?_
            refine Sq.vals [0] (rest := []) [iV 0] (fun w => by kernel_rfl) ?_
            refine Sq.done ?_
            refine Ex'.next ?_
            refine Cd.region rfl ?_
            refine Sq.vals [0] (rest := [1, 2, 3, 4, 5, 6, 7, 8]) [pV b 0] (fun w => by kernel_rfl) ?_
            refine Sq.same [0, 1, 2, 3, 4] (l := arcL b lt1 lt2 lb1 lb2 most p t1 t2 b1 b2 n) (o_call (by kernel_rfl) Try.call28 (arc_fresh (n := n) (n' := n + 1) (most := most) (p := p) (t1 := t1) (t2 := t2) (b1 := b1) (b2 := b2) (by omega) (by omega) (by omega))) (by kernel_rfl) rfl (by kernel_rfl) rfl ?_
            refine Sq.vals [2, 3, 4, 5] (rest := [6, 7, 8]) [.tuple #[sV ((arcFresh most p t1 t2 b1 b2).2.2.2.2.1), bV ((arcFresh most p t1 t2 b1 b2).2.2.2.2.2)], sV ((arcFresh most p t1 t2 b1 b2).2.2.2.2.1), bV ((arcFresh most p t1 t2 b1 b2).2.2.2.2.2), pV b4 1] (fun w => by kernel_rfl) ?_
            refine Sq.same [6] (l := [blkR b4 [bV false, sV ⟨#[]⟩, bV false] 28]) (o_store (i := 1) (v := sV ((arcFresh most p t1 t2 b1 b2).2.2.2.2.1)) (by kernel_rfl) (by kernel_rfl) (by kernel_rfl) (by kernel_rfl) (by kernel_rfl)) (by kernel_rfl) rfl (by kernel_rfl) rfl ?_
            refine Sq.vals [7] (rest := [8]) [pV b4 2] (fun w => by kernel_rfl) ?_
            refine Sq.same [6] (l := [blkR b4 [bV false, sV ((arcFresh most p t1 t2 b1 b2).2.2.2.2.1), bV false] 28]) (o_store (i := 2) (v := bV ((arcFresh most p t1 t2 b1 b2).2.2.2.2.2)) (by kernel_rfl) (by kernel_rfl) (by kernel_rfl) (by kernel_rfl) (by kernel_rfl)) (by kernel_rfl) rfl (by kernel_rfl) rfl ?_
            refine Sq.done ?_
            refine Ex'.blockNormal ?_
            refine Ex'.next ?_
            refine Cd.seq ?_
            refine Cd.seq ?_
            refine Cd.region rfl ?_
            refine Sq.vals [0, 1] (rest := []) [iV 4, bV false] (fun w => by kernel_rfl) ?_
            refine Sq.done ?_
            refine Ex'.next ?_
            refine Cd.condF (by kernel_rfl) ?_
            refine Cd.skip ?_
            refine Ex'.next ?_
            refine Cd.seq ?_
            refine Cd.region rfl ?_
            refine Sq.vals [0, 1, 2, 3, 4] (rest := [5, 6, 7]) [pV b 0, iV 0, pV b 0, pV b 2, pV b 2] (fun w => by kernel_rfl) ?_
            refine Sq.same [0] (l := [arcB b lt1 lt2 lb1 lb2 most p]) (o_load (i := 2) (v := pV lt1 0) (by kernel_rfl) (by kernel_rfl) (by kernel_rfl)) (by kernel_rfl) rfl (by kernel_rfl) rfl ?_
            refine Sq.vals [6] (rest := [7]) [sV key] (fun w => by kernel_rfl) ?_
            refine Sq.same [1] (l := [llR lt1 ((arcFresh most p t1 t2 b1 b2).1) (n + 1)]) (o_call (by kernel_rfl) Try.call30 (t_Front (ks := (arcFresh most p t1 t2 b1 b2).1) (n := n + 1) key (by omega))) (by kernel_rfl) rfl (by kernel_rfl) rfl ?_
            refine Sq.done ?_
            refine Ex'.next ?_
            refine Cd.seq ?_
            refine Cd.region rfl ?_
            refine Sq.same [6] (l := [blkR b4 [bV false, sV ((arcFresh most p t1 t2 b1 b2).2.2.2.2.1), bV ((arcFresh most p t1 t2 b1 b2).2.2.2.2.2)] 28]) (o_loadN (i := 0) [bV false, sV ((arcFresh most p t1 t2 b1 b2).2.2.2.2.1), bV ((arcFresh most p t1 t2 b1 b2).2.2.2.2.2)] (by kernel_rfl) (by kernel_rfl) (by kernel_rfl)) (by kernel_rfl) rfl (by kernel_rfl) rfl ?_
            refine Sq.same [5] (l := [blkR b3 [bV false, sV ⟨#[]⟩, bV false] 28]) (o_store (i := 0) (v := .agg #[bV false, sV ((arcFresh most p t1 t2 b1 b2).2.2.2.2.1), bV ((arcFresh most p t1 t2 b1 b2).2.2.2.2.2)]) (by kernel_rfl) (by kernel_rfl) (by kernel_rfl) (by kernel_rfl) (by kernel_rfl)) (by kernel_rfl) rfl (by kernel_rfl) rfl ?_
            refine Sq.done ?_
            refine Ex'.next ?_
            refine Cd.ret ?_
            refine Ex'.ret Try.results10 (RVs.cellN (i := 0) (b := b3) (l := [bV false, sV ((arcFresh most p t1 t2 b1 b2).2.2.2.2.1), bV ((arcFresh most p t1 t2 b1 b2).2.2.2.2.2)]) (E := 28) [bV false, sV ((arcFresh most p t1 t2 b1 b2).2.2.2.2.1), bV ((arcFresh most p t1 t2 b1 b2).2.2.2.2.2)] 5 (by kernel_rfl) (by kernel_rfl) (by kernel_rfl) (by kernel_rfl) (RVs.nil)) (fun w hw => ?_)
            have e : arcReq most p t1 t2 b1 b2 key = (p, fr ((arcFresh most p t1 t2 b1 b2).1) key, (arcFresh most p t1 t2 b1 b2).2.1, (arcFresh most p t1 t2 b1 b2).2.2.1, (arcFresh most p t1 t2 b1 b2).2.2.2.1, false, (arcFresh most p t1 t2 b1 b2).2.2.2.2.1, (arcFresh most p t1 t2 b1 b2).2.2.2.2.2) := by unfold arcReq; rw [if_neg h5, if_neg h7, if_neg h9, if_neg h11, if_neg h13]
            rw [e]
            exact ⟨_, ⟨rfl, rfl⟩, ((((hw.conv 1 (R := llR lt1 (fr ((arcFresh most p t1 t2 b1 b2).1) key) (n + 2)) (R' := llR lt1 (fr ((arcFresh most p t1 t2 b1 b2).1) key) n') (by kernel_rfl) (llR.up (by omega))).conv 2 (R := llR lt2 ((arcFresh most p t1 t2 b1 b2).2.1) (n + 1)) (R' := llR lt2 ((arcFresh most p t1 t2 b1 b2).2.1) n') (by kernel_rfl) (llR.up (by omega))).conv 3 (R := llR lb1 ((arcFresh most p t1 t2 b1 b2).2.2.1) (n + 1)) (R' := llR lb1 ((arcFresh most p t1 t2 b1 b2).2.2.1) n') (by kernel_rfl) (llR.up (by omega))).conv 4 (R := llR lb2 ((arcFresh most p t1 t2 b1 b2).2.2.2.1) (n + 1)) (R' := llR lb2 ((arcFresh most p t1 t2 b1 b2).2.2.2.1) n') (by kernel_rfl) (llR.up (by omega))).pickB [0, 1, 2, 3, 4] (by kernel_rfl) (by kernel_rfl) (by kernel_rfl)⟩

set_option maxHeartbeats 4000000 in
set_option maxRecDepth 100000 in
theorem arc_VictimA {b : Nat} {lt1 : Nat} {lt2 : Nat} {lb1 : Nat} {lb2 : Nat} {n : Nat} {most : Int} {p : Int} {t1 : List ByteArray} {t2 : List ByteArray} {b1 : List ByteArray} {b2 : List ByteArray}  (hb : n ≤ 1000000000) (h0 : (t1.length : Int) ≥ most) : Tri Try.prog 34 #[pV b 0] (arcL b lt1 lt2 lb1 lb2 most p t1 t2 b1 b2 n) (Same (arcL b lt1 lt2 lb1 lb2 most p t1 t2 b1 b2 n) (.tuple #[sV (t1.getLast?.getD ⟨#[]⟩), bV (decide (0 < t1.length))])) := by
  refine Tri.enter (args := [pV b 0]) Try.func34 rfl rfl rfl (fun B wz => ?_)
  refine Cd.seq ?_
  refine Cd.region rfl ?_
  refine Sq.vals [0, 1] (rest := []) [sV ⟨#[]⟩, bV false] (fun w => by kernel_rfl) ?_
  refine Sq.done ?_
  refine Ex'.next ?_
  refine Cd.seq ?_
  refine Cd.seq ?_
  refine Cd.plan [0, 1, 3, 7, 15, 31, 0, 64, 192, 448, 1023] [(4, [(0, false, 0)]), (5, [(1, false, 0)]), (9, [(0, false, 0)])] [] [] [] [fun g => pV b 0, fun g => pV b 0, fun g => pV b 2, fun g => pV b 2, fun g => pV lt1 0, fun g => iV (t1.length : Int), fun g => pV b 0, fun g => pV b 0, fun g => pV b 0, fun g => iV most, fun g => bV true] (by kernel_rfl) (by kernel_rfl) rfl (trivial) ?_ ?_
  · exact ⟨ob_val fun g w => by kernel_rfl, ob_val fun g w => by kernel_rfl, ob_val fun g w => by kernel_rfl, ob_val fun g w => by kernel_rfl, ob_s (l := fun g => [arcB b lt1 lt2 lb1 lb2 most p]) (l' := fun g => [arcB b lt1 lt2 lb1 lb2 most p]) (v := fun g => pV lt1 0) (fun g => o_load (i := 2) (v := pV lt1 0) (by kernel_rfl) (by kernel_rfl) (by kernel_rfl)) (fun g => by kernel_rfl), ob_s (l := fun g => [llR lt1 t1 n]) (l' := fun g => [llR lt1 t1 n]) (v := fun g => iV (t1.length : Int)) (fun g => o_call (by kernel_rfl) Try.call26 (t_Len (ks := t1) (n := n))) (fun g => by kernel_rfl), ob_val fun g w => by kernel_rfl, ob_val fun g w => by kernel_rfl, ob_val fun g w => by kernel_rfl, ob_s (l := fun g => [arcB b lt1 lt2 lb1 lb2 most p]) (l' := fun g => [arcB b lt1 lt2 lb1 lb2 most p]) (v := fun g => iV most) (fun g => o_load (i := 0) (v := iV most) (by kernel_rfl) (by kernel_rfl) (by kernel_rfl)) (fun g => by kernel_rfl), ob_v (v := fun g => bV true) (fun g => OprV.re (pureV (v := bV (decide ((t1.length : Int) ≥ most))) (by kernel_rfl) rfl fun w => by kernel_rfl) (vT h0)) (fun g => by kernel_rfl), trivial⟩
  intro g
  refine Ex'.sub (subB_spec [0, 2, 3, 14]) ?_
  refine Ex'.as [0, 1, 2, 3, 4] (σ' := [(0, pV b 0), (2, sV ⟨#[]⟩), (3, bV false), (14, bV true)]) (Γ' := [arcB b lt1 lt2 lb1 lb2 most p, llR lt1 t1 n, llR lt2 t2 n, llR lb1 b1 n, llR lb2 b2 n]) (by kernel_rfl) rfl (by kernel_rfl) (by kernel_rfl) ?_
  refine Ex'.next ?_
  refine Cd.condT (by kernel_rfl) ?_
  refine Cd.seq ?_
  refine Cd.region rfl ?_
  refine Sq.vals [0, 1, 2, 3] (rest := [4, 5, 6, 7, 8, 9]) [pV b 0, pV b 0, pV b 2, pV b 2] (fun w => by kernel_rfl) ?_
  refine Sq.same [0] (l := [arcB b lt1 lt2 lb1 lb2 most p]) (o_load (i := 2) (v := pV lt1 0) (by kernel_rfl) (by kernel_rfl) (by kernel_rfl)) (by kernel_rfl) rfl (by kernel_rfl) rfl ?_
  refine Sq.same [1] (l := [llR lt1 t1 n]) (o_call (by kernel_rfl) Try.call43 (t_Last (ks := t1) (n := n))) (by kernel_rfl) rfl (by kernel_rfl) rfl ?_
  refine Sq.vals [6, 7, 8, 9] (rest := []) [sV (t1.getLast?.getD ⟨#[]⟩), bV (decide (0 < t1.length)), sV (t1.getLast?.getD ⟨#[]⟩), bV (decide (0 < t1.length))] (fun w => by kernel_rfl) ?_
  refine Sq.done ?_
  refine Ex'.next ?_
  refine Cd.ret ?_
  refine Ex'.thenRet ?_
  refine Ex'.ret Try.results34 (RVs.tmp (v := sV (t1.getLast?.getD ⟨#[]⟩)) (by kernel_rfl) (RVs.tmp (v := bV (decide (0 < t1.length))) (by kernel_rfl) (RVs.nil))) (fun w hw => ?_)
  exact ⟨_, ⟨rfl, rfl⟩, hw.pickB [0, 1, 2, 3, 4] (by kernel_rfl) (by kernel_rfl) (by kernel_rfl)⟩

set_option maxHeartbeats 4000000 in
set_option maxRecDepth 100000 in
theorem arc_VictimB {b : Nat} {lt1 : Nat} {lt2 : Nat} {lb1 : Nat} {lb2 : Nat} {n : Nat} {most : Int} {p : Int} {t1 : List ByteArray} {t2 : List ByteArray} {b1 : List ByteArray} {b2 : List ByteArray}  (hb : n ≤ 1000000000) (h0 : ¬ ((t1.length : Int) ≥ most)) (h1 : (t1.length : Int) > 0 ∧ ((t1.length : Int) > p ∨ (t2.length : Int) = 0)) : Tri Try.prog 34 #[pV b 0] (arcL b lt1 lt2 lb1 lb2 most p t1 t2 b1 b2 n) (Same (arcL b lt1 lt2 lb1 lb2 most p t1 t2 b1 b2 n) (.tuple #[sV (t1.getLast?.getD ⟨#[]⟩), bV (decide (0 < t1.length))])) := by
  refine Tri.enter (args := [pV b 0]) Try.func34 rfl rfl rfl (fun B wz => ?_)
  refine Cd.seq ?_
  refine Cd.region rfl ?_
  refine Sq.vals [0, 1] (rest := []) [sV ⟨#[]⟩, bV false] (fun w => by kernel_rfl) ?_
  refine Sq.done ?_
  refine Ex'.next ?_
  refine Cd.seq ?_
  refine Cd.seq ?_
  refine Cd.plan [0, 1, 3, 7, 15, 31, 0, 64, 192, 448, 1023] [(4, [(0, false, 0)]), (5, [(1, false, 0)]), (9, [(0, false, 0)])] [] [] [] [fun g => pV b 0, fun g => pV b 0, fun g => pV b 2, fun g => pV b 2, fun g => pV lt1 0, fun g => iV (t1.length : Int), fun g => pV b 0, fun g => pV b 0, fun g => pV b 0, fun g => iV most, fun g => bV false] (by kernel_rfl) (by kernel_rfl) rfl (trivial) ?_ ?_
  · exact ⟨ob_val fun g w => by kernel_rfl, ob_val fun g w => by kernel_rfl, ob_val fun g w => by kernel_rfl, ob_val fun g w => by kernel_rfl, ob_s (l := fun g => [arcB b lt1 lt2 lb1 lb2 most p]) (l' := fun g => [arcB b lt1 lt2 lb1 lb2 most p]) (v := fun g => pV lt1 0) (fun g => o_load (i := 2) (v := pV lt1 0) (by kernel_rfl) (by kernel_rfl) (by kernel_rfl)) (fun g => by kernel_rfl), ob_s (l := fun g => [llR lt1 t1 n]) (l' := fun g => [llR lt1 t1 n]) (v := fun g => iV (t1.length : Int)) (fun g => o_call (by kernel_rfl) Try.call26 (t_Len (ks := t1) (n := n))) (fun g => by kernel_rfl), ob_val fun g w => by kernel_rfl, ob_val fun g w => by kernel_rfl, ob_val fun g w => by kernel_rfl, ob_s (l := fun g => [arcB b lt1 lt2 lb1 lb2 most p]) (l' := fun g => [arcB b lt1 lt2 lb1 lb2 most p]) (v := fun g => iV most) (fun g => o_load (i := 0) (v := iV most) (by kernel_rfl) (by kernel_rfl) (by kernel_rfl)) (fun g => by kernel_rfl), ob_v (v := fun g => bV false) (fun g => OprV.re (pureV (v := bV (decide ((t1.length : Int) ≥ most))) (by kernel_rfl) rfl fun w => by kernel_rfl) (vF h0)) (fun g => by kernel_rfl), trivial⟩
  intro g
  refine Ex'.sub (subB_spec [0, 2, 3, 14]) ?_
  refine Ex'.as [0, 1, 2, 3, 4] (σ' := [(0, pV b 0), (2, sV ⟨#[]⟩), (3, bV false), (14, bV false)]) (Γ' := [arcB b lt1 lt2 lb1 lb2 most p, llR lt1 t1 n, llR lt2 t2 n, llR lb1 b1 n, llR lb2 b2 n]) (by kernel_rfl) rfl (by kernel_rfl) (by kernel_rfl) ?_
  refine Ex'.next ?_
  refine Cd.condF (by kernel_rfl) ?_
  refine Cd.skip ?_
  refine Ex'.next ?_
  refine Cd.seq ?_
  refine Cd.sub (subB_spec [0, 14]) ?_
  refine Cd.plan [0, 0, 2, 1, 9, 31, 63, 127, 255, 255, 1023, 2047] [(2, [(0, false, 0), (1, false, 0), (2, false, 0), (3, false, 0), (4, false, 0)]), (6, [(0, false, 0)]), (7, [(1, false, 0)])] [] [] [] [fun g => pV b 0, fun g => pV b 0, fun g => iV 0, fun g => pV b 0, fun g => pV b 2, fun g => pV b 2, fun g => pV lt1 0, fun g => .tuple #[sV (t1.getLast?.getD ⟨#[]⟩), bV (decide (0 < t1.length))], fun g => sV (t1.getLast?.getD ⟨#[]⟩), fun g => bV (decide (0 < t1.length)), fun g => sV (t1.getLast?.getD ⟨#[]⟩), fun g => bV (decide (0 < t1.length))] (by kernel_rfl) (by kernel_rfl) rfl (trivial) ?_ ?_
  · exact ⟨ob_val fun g w => by kernel_rfl, ob_val fun g w => by kernel_rfl, ob_s (l := fun g => [arcB b lt1 lt2 lb1 lb2 most p, llR lt1 t1 n, llR lt2 t2 n, llR lb1 b1 n, llR lb2 b2 n]) (l' := fun g => [arcB b lt1 lt2 lb1 lb2 most p, llR lt1 t1 n, llR lt2 t2 n, llR lb1 b1 n, llR lb2 b2 n]) (v := fun g => iV 0) (fun g => o_call (by kernel_rfl) Try.call44 (arc_fromF0 (n := n) (most := most) (p := p) (t1 := t1) (t2 := t2) (b1 := b1) (b2 := b2) (by omega) h1)) (fun g => by kernel_rfl), ob_val fun g w => by kernel_rfl, ob_val fun g w => by kernel_rfl, ob_val fun g w => by kernel_rfl, ob_s (l := fun g => [arcB b lt1 lt2 lb1 lb2 most p]) (l' := fun g => [arcB b lt1 lt2 lb1 lb2 most p]) (v := fun g => pV lt1 0) (fun g => o_load (i := 2) (v := pV lt1 0) (by kernel_rfl) (by kernel_rfl) (by kernel_rfl)) (fun g => by kernel_rfl), ob_s (l := fun g => [llR lt1 t1 n]) (l' := fun g => [llR lt1 t1 n]) (v := fun g => .tuple #[sV (t1.getLast?.getD ⟨#[]⟩), bV (decide (0 < t1.length))]) (fun g => o_call (by kernel_rfl) Try.call43 (t_Last (ks := t1) (n := n))) (fun g => by kernel_rfl), ob_val fun g w => by kernel_rfl, ob_val fun g w => by kernel_rfl, ob_val fun g w => by kernel_rfl, ob_val fun g w => by kernel_rfl, trivial⟩
  intro g
  refine Ex'.sub (subB_spec [2, 3]) ?_
  refine Ex'.as [0, 1, 2, 3, 4] (σ' := [(2, sV (t1.getLast?.getD ⟨#[]⟩)), (3, bV (decide (0 < t1.length)))]) (Γ' := [arcB b lt1 lt2 lb1 lb2 most p, llR lt1 t1 n, llR lt2 t2 n, llR lb1 b1 n, llR lb2 b2 n]) (by kernel_rfl) rfl (by kernel_rfl) (by kernel_rfl) ?_
  refine Ex'.next ?_
  refine Cd.ret ?_
  refine Ex'.ret Try.results34 (RVs.tmp (v := sV (t1.getLast?.getD ⟨#[]⟩)) (by kernel_rfl) (RVs.tmp (v := bV (decide (0 < t1.length))) (by kernel_rfl) (RVs.nil))) (fun w hw => ?_)
  exact ⟨_, ⟨rfl, rfl⟩, hw.pickB [0, 1, 2, 3, 4] (by kernel_rfl) (by kernel_rfl) (by kernel_rfl)⟩

end Go.Proofs.Ytnijaeipkbpibaa
