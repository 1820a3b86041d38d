/- LruStack: its walk. -/
import Derived.Test.YtjijjfdkghcjkaaLruS
import Derived.Test.YtjijjfdkghcjkaaActs
set_option linter.unusedVariables false
namespace Go.Proofs.Ytjijjfdkghcjkaa
open Go.RowKit Go.MapKept

set_option maxHeartbeats 8000000 in
set_option maxRecDepth 100000 in
theorem lruStack_neg {w0 : World} {n m : Int} {a : Option Addr} {cap : Nat} {xs : List ByteArray} (hl : xs.length ≤ cap ∧ cap ≤ 9223372036854775807) (hs : KeysIn w0 (.slice a xs.length cap) xs) (h0 : n < 0) : Tri Try.prog 3 #[iV n, iV m, .slice a xs.length cap] [oldR w0] (LawP w0) := by
  refine Tri.enter (args := [iV n, iV m, .slice a xs.length cap]) Try.func3 rfl rfl rfl (fun B wz => ?_)
  refine Cd.seq ?_
  refine Cd.region rfl ?_
  refine Sq.vals [0] (rest := []) [bV false] (fun w => by kernel_rfl) ?_
  refine Sq.done ?_
  refine Ex'.next ?_
  refine Cd.seq ?_
  refine Cd.seq ?_
  refine Cd.region rfl ?_
  refine Sq.same [] (l := []) (o_call (by kernel_rfl) Try.call14 (awake_lru)) (by kernel_rfl) rfl (by kernel_rfl) rfl ?_
  refine Sq.vals [1] (rest := []) [bV false] (fun w => by kernel_rfl) ?_
  refine Sq.done ?_
  refine Ex'.next ?_
  refine Cd.condF (by kernel_rfl) ?_
  refine Cd.skip ?_
  refine Ex'.next ?_
  refine Cd.seq ?_
  refine Cd.seq ?_
  refine Cd.region rfl ?_
  refine Sq.vals [0] (rest := [1, 2, 3, 4, 5, 6, 7, 8, 9, 10, 11]) [iV n] (fun w => by kernel_rfl) ?_
  refine Sq.v (r := bV (decide (n < 0))) (pureV (by kernel_rfl) rfl fun w => by kernel_rfl) rfl (by kernel_rfl) ?_
  refine Sq.re 17 rfl (vT h0) ?_
  refine Sq.vals [2, 3, 4, 5, 6, 7, 8, 9, 10, 11] (rest := []) [bV true, undef, undef, undef, bV true, bV true, undef, undef, undef, bV true] (fun w => by kernel_rfl) ?_
  refine Sq.done ?_
  refine Ex'.next ?_
  refine Cd.condT (by kernel_rfl) ?_
  refine Cd.seq ?_
  refine Cd.region rfl ?_
  refine Sq.vals [0] (rest := []) [bV true] (fun w => by kernel_rfl) ?_
  refine Sq.done ?_
  refine Ex'.next ?_
  refine Cd.ret ?_
  refine Ex'.thenRet ?_
  refine Ex'.ret Try.results3 (RVs.tmp (v := bV true) (by kernel_rfl) (RVs.nil)) (fun w hw => ?_)
  exact ⟨_, ⟨rfl, by kernel_rfl⟩, hw⟩

set_option maxHeartbeats 8000000 in
set_option maxRecDepth 100000 in
theorem lruStack_less {w0 : World} {n m : Int} {a : Option Addr} {cap : Nat} {xs : List ByteArray} (hl : xs.length ≤ cap ∧ cap ≤ 9223372036854775807) (hs : KeysIn w0 (.slice a xs.length cap) xs) (h0 : ¬ n < 0) (h1 : m < n) : Tri Try.prog 3 #[iV n, iV m, .slice a xs.length cap] [oldR w0] (LawP w0) := by
  refine Tri.enter (args := [iV n, iV m, .slice a xs.length cap]) Try.func3 rfl rfl rfl (fun B wz => ?_)
  refine Cd.seq ?_
  refine Cd.region rfl ?_
  refine Sq.vals [0] (rest := []) [bV false] (fun w => by kernel_rfl) ?_
  refine Sq.done ?_
  refine Ex'.next ?_
  refine Cd.seq ?_
  refine Cd.seq ?_
  refine Cd.region rfl ?_
  refine Sq.same [] (l := []) (o_call (by kernel_rfl) Try.call14 (awake_lru)) (by kernel_rfl) rfl (by kernel_rfl) rfl ?_
  refine Sq.vals [1] (rest := []) [bV false] (fun w => by kernel_rfl) ?_
  refine Sq.done ?_
  refine Ex'.next ?_
  refine Cd.condF (by kernel_rfl) ?_
  refine Cd.skip ?_
  refine Ex'.next ?_
  refine Cd.seq ?_
  refine Cd.seq ?_
  refine Cd.region rfl ?_
  refine Sq.vals [0] (rest := [1, 2, 3, 4, 5, 6, 7, 8, 9, 10, 11]) [iV n] (fun w => by kernel_rfl) ?_
  refine Sq.v (r := bV (decide (n < 0))) (pureV (by kernel_rfl) rfl fun w => by kernel_rfl) rfl (by kernel_rfl) ?_
  refine Sq.re 17 rfl (vF h0) ?_
  refine Sq.vals [2, 3, 4] (rest := [5, 6, 7, 8, 9, 10, 11]) [bV false, iV m, iV n] (fun w => by kernel_rfl) ?_
  refine Sq.v (r := bV (decide (m < n))) (pureV (by kernel_rfl) rfl fun w => by kernel_rfl) rfl (by kernel_rfl) ?_
  refine Sq.re 21 rfl (vT h1) ?_
  refine Sq.vals [6, 7, 8, 9, 10, 11] (rest := []) [bV true, bV true, undef, undef, undef, bV true] (fun w => by kernel_rfl) ?_
  refine Sq.done ?_
  refine Ex'.next ?_
  refine Cd.condT (by kernel_rfl) ?_
  refine Cd.seq ?_
  refine Cd.region rfl ?_
  refine Sq.vals [0] (rest := []) [bV true] (fun w => by kernel_rfl) ?_
  refine Sq.done ?_
  refine Ex'.next ?_
  refine Cd.ret ?_
  refine Ex'.thenRet ?_
  refine Ex'.ret Try.results3 (RVs.tmp (v := bV true) (by kernel_rfl) (RVs.nil)) (fun w hw => ?_)
  exact ⟨_, ⟨rfl, by kernel_rfl⟩, hw⟩

set_option maxHeartbeats 8000000 in
set_option maxRecDepth 100000 in
theorem lruStack_pos {w0 : World} {N M : Nat} {a : Option Addr} {cap : Nat} {xs : List ByteArray} (hl : xs.length ≤ cap ∧ cap ≤ 9223372036854775807) (hs : KeysIn w0 (.slice a xs.length cap) xs) (hNM : N ≤ M) (hM : M ≤ 9223372036854775807) : Tri Try.prog 3 #[iV (N : Int), iV (M : Int), .slice a xs.length cap] [oldR w0] (LawP w0) := by
  refine Tri.enter (args := [iV (N : Int), iV (M : Int), .slice a xs.length cap]) Try.func3 rfl rfl rfl (fun B wz => ?_)
  refine Cd.seq ?_
  refine Cd.region rfl ?_
  refine Sq.vals [0] (rest := []) [bV false] (fun w => by kernel_rfl) ?_
  refine Sq.done ?_
  refine Ex'.next ?_
  refine Cd.seq ?_
  refine Cd.seq ?_
  refine Cd.region rfl ?_
  refine Sq.same [] (l := []) (o_call (by kernel_rfl) Try.call14 (awake_lru)) (by kernel_rfl) rfl (by kernel_rfl) rfl ?_
  refine Sq.vals [1] (rest := []) [bV false] (fun w => by kernel_rfl) ?_
  refine Sq.done ?_
  refine Ex'.next ?_
  refine Cd.condF (by kernel_rfl) ?_
  refine Cd.skip ?_
  refine Ex'.next ?_
  refine Cd.seq ?_
  refine Cd.seq ?_
  refine Cd.region rfl ?_
  refine Sq.vals [0] (rest := [1, 2, 3, 4, 5, 6, 7, 8, 9, 10, 11]) [iV (N : Int)] (fun w => by kernel_rfl) ?_
  refine Sq.v (r := bV (decide ((N : Int) < 0))) (pureV (by kernel_rfl) rfl fun w => by kernel_rfl) rfl (by kernel_rfl) ?_
  refine Sq.re 17 rfl (vF (by omega)) ?_
  refine Sq.vals [2, 3, 4] (rest := [5, 6, 7, 8, 9, 10, 11]) [bV false, iV (M : Int), iV (N : Int)] (fun w => by kernel_rfl) ?_
  refine Sq.v (r := bV (decide ((M : Int) < (N : Int)))) (pureV (by kernel_rfl) rfl fun w => by kernel_rfl) rfl (by kernel_rfl) ?_
  refine Sq.re 21 rfl (vF (by omega)) ?_
  refine Sq.vals [6, 7, 8, 9, 10, 11] (rest := []) [bV false, bV false, .slice a xs.length cap, iV (xs.length : Int), bV (decide ((xs.length : Int) > 200)), bV (decide ((xs.length : Int) > 200))] (fun w => by kernel_rfl) ?_
  refine Sq.done ?_
  refine Ex'.next ?_
  refine Cd.case (p := (xs.length : Int) > 200) (by kernel_rfl) (fun h1 => ?_) (fun h1 => ?_)
  ·
    refine Cd.seq ?_
    refine Cd.region rfl ?_
    refine Sq.vals [0] (rest := []) [bV true] (fun w => by kernel_rfl) ?_
    refine Sq.done ?_
    refine Ex'.next ?_
    refine Cd.ret ?_
    refine Ex'.thenRet ?_
    refine Ex'.ret Try.results3 (RVs.tmp (v := bV true) (by kernel_rfl) (RVs.nil)) (fun w hw => ?_)
    exact ⟨_, ⟨rfl, by kernel_rfl⟩, hw⟩
  ·
    refine Cd.skip ?_
    refine Ex'.next ?_
    refine Cd.seq ?_
    refine Cd.region rfl ?_
    refine Sq.vals [0] (rest := [1, 2, 3, 4, 5]) [iV (N : Int)] (fun w => by kernel_rfl) ?_
    refine Sq.ex [] (l := []) (o_call (by kernel_rfl) Try.call15 (tl_New (N := N) (by omega))) (by kernel_rfl) rfl (by kernel_rfl) (fun _ => Nat.le_of_ble_eq_true (by kernel_rfl)) ?_; rintro b2 _
    refine Sq.vals [2] (rest := [3, 4, 5]) [iV (M : Int)] (fun w => by kernel_rfl) ?_
    refine Sq.ex [] (l := []) (o_call (by kernel_rfl) Try.call15 (tl_New (N := M) (by omega))) (by kernel_rfl) rfl (by kernel_rfl) (fun _ => Nat.le_of_ble_eq_true (by kernel_rfl)) ?_; rintro b3 _
    refine Sq.vals [4, 5] (rest := []) [pV b2 0, pV b3 0] (fun w => by kernel_rfl) ?_
    refine Sq.done ?_
    refine Ex'.next ?_
    refine Cd.seq ?_
    refine Cd.seq ?_
    refine Cd.region rfl ?_
    refine Sq.vals [0, 1, 2, 3, 4, 5] (rest := []) [pV b2 0, bV false, bV false, pV b3 0, bV false, bV false] (fun w => by kernel_rfl) ?_
    refine Sq.done ?_
    refine Ex'.next ?_
    refine Cd.condF (by kernel_rfl) ?_
    refine Cd.skip ?_
    refine Ex'.next ?_
    refine Cd.seq ?_
    refine Cd.seq ?_
    refine Cd.region rfl ?_
    refine Sq.vals [0] (rest := []) [iV 0] (fun w => by kernel_rfl) ?_
    refine Sq.done ?_
    refine Ex'.next ?_
    refine Cd.block ?_
    refine Cd.loop (ι := Nat × (List ByteArray) × Nat × Nat) (fun ⟨k, F, n1, n2⟩ => k ≤ xs.length ∧ F.Nodup ∧ n1 ≤ k ∧ n2 ≤ k) (fun ⟨k, F, n1, n2⟩ => xs.length - k) (fun ⟨k, F, n1, n2⟩ => [(0, iV (N : Int)), (1, iV (M : Int)), (2, .slice a xs.length cap), (7, pV b2 0), (8, pV b3 0), (9, iV (k : Int))]) (fun ⟨k, F, n1, n2⟩ => [oldR w0, lruR b2 (N : Int) (lastN N F) n1, lruR b3 (M : Int) (lastN M F) n2]) (0, [], 0, 0) (⟨Nat.zero_le _, List.nodup_nil, Nat.le_refl _, Nat.le_refl _⟩) (subB_eq (l := [0, 1, 2, 7, 8, 9]) (by kernel_rfl)) (fun w hw => hw.pickB [0, 1, 2] (by kernel_rfl) (by kernel_rfl) (by kernel_rfl)) ?_
    rintro ⟨k, F, n1, n2⟩ hL4
    try dsimp only at hL4 ⊢
    obtain ⟨hk, hF, hn1, hn2⟩ := hL4
    refine Cd.seq ?_
    refine Cd.seq ?_
    refine Cd.region rfl ?_
    refine Sq.vals [0, 1, 2, 3] (rest := []) [iV (k : Int), .slice a xs.length cap, iV (xs.length : Int), bV (decide ((k : Int) < (xs.length : Int)))] (fun w => by kernel_rfl) ?_
    refine Sq.done ?_
    refine Ex'.next ?_
    refine Cd.case (p := (k : Int) < (xs.length : Int)) (by kernel_rfl) (fun h5 => ?_) (fun h5 => ?_)
    ·
      obtain ⟨g6, off7, rfl⟩ := hs.addr (by omega)
      obtain ⟨kyk, hgk, hwk, hrk⟩ := hs.at (k := k) (by omega)
      refine Cd.skip ?_
      refine Ex'.next ?_
      refine Cd.seq ?_
      refine Cd.block ?_
      refine Cd.seq ?_
      refine Cd.seq ?_
      refine Cd.region rfl ?_
      refine Sq.vals [0, 1] (rest := [2, 3, 4, 5]) [.slice (some ⟨g6, off7, none⟩) xs.length cap, iV (k : Int)] (fun w => by kernel_rfl) ?_
      refine Sq.v (r := pV g6 (off7 + k)) (o_idx (b := g6) (cap := cap) (e := 9) (off := off7) (n := xs.length) (kd := .i64) (q := (k : Int)) (i := k) (size := 1) (j := off7 + k) (by kernel_rfl) (by kernel_rfl) (by rfl) (by omega) Try.underlying22 (by kernel_rfl) (by omega)) rfl (by kernel_rfl) ?_
      refine Sq.same [0] (l := [oldR w0]) (o_loadOld (b := g6) (j := off7 + k) (u := sV kyk) (by kernel_rfl) (by kernel_rfl) (hrk 0 _ rfl)) (by kernel_rfl) rfl (by kernel_rfl) rfl ?_
      refine Sq.vals [4, 5] (rest := []) [iV (kyk.size : Int), bV (decide ((kyk.size : Int) > 200))] (fun w => by kernel_rfl) ?_
      refine Sq.done ?_
      refine Ex'.next ?_
      refine Cd.case (p := (kyk.size : Int) > 200) (by kernel_rfl) (fun h8 => ?_) (fun h8 => ?_)
      ·
        refine Cd.seq ?_
        refine Cd.region rfl ?_
        refine Sq.vals [0] (rest := []) [bV true] (fun w => by kernel_rfl) ?_
        refine Sq.done ?_
        refine Ex'.next ?_
        refine Cd.ret ?_
        refine Ex'.thenRet ?_
        refine Ex'.blockRet ?_
        refine Ex'.thenRet ?_
        refine Ex'.thenRet ?_
        refine Ex'.blockRet ?_
        refine Ex'.thenRet ?_
        refine Ex'.ret Try.results3 (RVs.tmp (v := bV true) (by kernel_rfl) (RVs.nil)) (fun w hw => ?_)
        exact ⟨_, ⟨rfl, by kernel_rfl⟩, hw⟩
      ·
        refine Cd.skip ?_
        refine Ex'.next ?_
        refine Cd.seq ?_
        refine Cd.plan [0, 0, 0, 6, 14, 31, 0, 0, 0, 384, 896, 2047, 0, 0, 16383, 32767] [(4, [(0, false, 0)]), (5, [(1, true, 0)]), (10, [(0, false, 0)]), (11, [(2, true, 0)]), (14, [(15, true, 13)]), (15, [(16, true, 14)])] [12, 13] [(12, fun _ => True), (13, fun _ => True)] [(1, 5, fun g => lruR b2 (N : Int) (lastN N (bk F kyk)) (n1 + 1)), (2, 11, fun g => lruR b3 (M : Int) (lastN M (bk F kyk)) (n2 + 1)), (15, 12, fun g => blkR (blkOf (g 12)) [bV false, sV ⟨#[]⟩, bV false] 27), (16, 13, fun g => blkR (blkOf (g 13)) [bV false, sV ⟨#[]⟩, bV false] 27), (15, 14, fun g => blkR (blkOf (g 12)) [bV (lruHit (lastN N F) kyk), sV (lruVic (N : Int) (lastN N F) kyk), bV (lruOutB (N : Int) (lastN N F) kyk)] 27), (16, 15, fun g => blkR (blkOf (g 13)) [bV (lruHit (lastN M F) kyk), sV (lruVic (M : Int) (lastN M F) kyk), bV (lruOutB (M : Int) (lastN M F) kyk)] 27)] [fun g => pV b2 0, fun g => .slice (some ⟨g6, off7, none⟩) xs.length cap, fun g => iV (k : Int), fun g => pV g6 (off7 + k), fun g => sV kyk, fun g => .agg #[bV (lruHit (lastN N F) kyk), sV (lruVic (N : Int) (lastN N F) kyk), bV (lruOutB (N : Int) (lastN N F) kyk)], fun g => pV b3 0, fun g => .slice (some ⟨g6, off7, none⟩) xs.length cap, fun g => iV (k : Int), fun g => pV g6 (off7 + k), fun g => sV kyk, fun g => .agg #[bV (lruHit (lastN M F) kyk), sV (lruVic (M : Int) (lastN M F) kyk), bV (lruOutB (M : Int) (lastN M F) kyk)], fun g => pV (blkOf (g 12)) 0, fun g => pV (blkOf (g 13)) 0, fun g => undef, fun g => undef] (by kernel_rfl) (by kernel_rfl) rfl (⟨⟨⟨fun _ _ => rfl, ⟨fun _ _ => rfl, ⟨fun _ _ => rfl, ⟨fun _ _ => rfl, ⟨fun _ _ => rfl, ⟨fun _ _ => rfl, ⟨fun _ _ => rfl, ⟨fun _ _ => rfl, ⟨fun _ _ => rfl, ⟨fun _ _ => rfl, ⟨fun _ _ => rfl, ⟨fun _ _ => rfl, ⟨trivial, ⟨fun _ _ => rfl, ⟨trivial, ⟨trivial, trivial⟩⟩⟩⟩⟩⟩⟩⟩⟩⟩⟩⟩⟩⟩⟩⟩, ⟨fun _ _ => rfl, ⟨fun _ _ => rfl, ⟨trivial, ⟨fun _ _ => rfl, ⟨trivial, ⟨trivial, trivial⟩⟩⟩⟩⟩⟩⟩, ⟨⟨⟨fun _ _ => rfl, ⟨fun _ _ => rfl, ⟨fun _ _ => rfl, ⟨fun _ _ => rfl, ⟨fun _ _ => rfl, ⟨fun _ _ => rfl, ⟨fun _ _ => rfl, ⟨fun _ _ => rfl, ⟨fun _ _ => rfl, ⟨fun _ _ => rfl, ⟨fun _ _ => rfl, ⟨fun _ _ => rfl, ⟨fun _ _ => rfl, ⟨trivial, ⟨trivial, ⟨trivial, trivial⟩⟩⟩⟩⟩⟩⟩⟩⟩⟩⟩⟩⟩⟩⟩⟩, ⟨fun _ _ => rfl, ⟨fun _ _ => rfl, ⟨fun _ _ => rfl, ⟨trivial, ⟨trivial, ⟨trivial, trivial⟩⟩⟩⟩⟩⟩⟩, trivial⟩⟩) ?_ ?_
        · exact ⟨ob_val fun g w => by kernel_rfl, ob_val fun g w => by kernel_rfl, ob_val fun g w => by kernel_rfl, ob_v (v := fun g => pV g6 (off7 + k)) (fun g => o_idx (b := g6) (cap := cap) (e := 9) (off := off7) (n := xs.length) (kd := .i64) (q := (k : Int)) (i := k) (size := 1) (j := off7 + k) (by kernel_rfl) (by kernel_rfl) (by rfl) (by omega) Try.underlying22 (by kernel_rfl) (by omega)) (fun g => by kernel_rfl), ob_s (l := fun g => [oldR w0]) (l' := fun g => [oldR w0]) (v := fun g => sV kyk) (fun g => o_loadOld (b := g6) (j := off7 + k) (u := sV kyk) (by kernel_rfl) (by kernel_rfl) (hrk 0 _ rfl)) (fun g => by kernel_rfl), ob_s (l := fun g => [lruR b2 (N : Int) (lastN N F) n1]) (l' := fun g => [lruR b2 (N : Int) (lastN N (bk F kyk)) (n1 + 1)]) (v := fun g => .agg #[bV (lruHit (lastN N F) kyk), sV (lruVic (N : Int) (lastN N F) kyk), bV (lruOutB (N : Int) (lastN N F) kyk)]) (fun g => o_call (by kernel_rfl) Try.call16 (tl_Request (n := n1) (M := N) (F := F) hF kyk (by omega))) (fun g => by kernel_rfl), ob_val fun g w => by kernel_rfl, ob_val fun g w => by kernel_rfl, ob_val fun g w => by kernel_rfl, ob_v (v := fun g => pV g6 (off7 + k)) (fun g => o_idx (b := g6) (cap := cap) (e := 9) (off := off7) (n := xs.length) (kd := .i64) (q := (k : Int)) (i := k) (size := 1) (j := off7 + k) (by kernel_rfl) (by kernel_rfl) (by rfl) (by omega) Try.underlying22 (by kernel_rfl) (by omega)) (fun g => by kernel_rfl), ob_s (l := fun g => [oldR w0]) (l' := fun g => [oldR w0]) (v := fun g => sV kyk) (fun g => o_loadOld (b := g6) (j := off7 + k) (u := sV kyk) (by kernel_rfl) (by kernel_rfl) (hrk 0 _ rfl)) (fun g => by kernel_rfl), ob_s (l := fun g => [lruR b3 (M : Int) (lastN M F) n2]) (l' := fun g => [lruR b3 (M : Int) (lastN M (bk F kyk)) (n2 + 1)]) (v := fun g => .agg #[bV (lruHit (lastN M F) kyk), sV (lruVic (M : Int) (lastN M F) kyk), bV (lruOutB (M : Int) (lastN M F) kyk)]) (fun g => o_call (by kernel_rfl) Try.call16 (tl_Request (n := n2) (M := M) (F := F) hF kyk (by omega))) (fun g => by kernel_rfl), ob_d (ι := Nat) (l := fun g => []) (L := fun g y => [blkR y [bV false, sV ⟨#[]⟩, bV false] 27]) (fun y => pV y 0) (fun g => o_new [bV false, sV ⟨#[]⟩, bV false] (fun w => by kernel_rfl)) (fun g => by kernel_rfl) (fun g y _ => ⟨trivial, by kernel_rfl, by kernel_rfl⟩), ob_d (ι := Nat) (l := fun g => []) (L := fun g y => [blkR y [bV false, sV ⟨#[]⟩, bV false] 27]) (fun y => pV y 0) (fun g => o_new [bV false, sV ⟨#[]⟩, bV false] (fun w => by kernel_rfl)) (fun g => by kernel_rfl) (fun g y _ => ⟨trivial, by kernel_rfl, by kernel_rfl⟩), ob_s (l := fun g => [blkR (blkOf (g 12)) [bV false, sV ⟨#[]⟩, bV false] 27]) (l' := fun g => [blkR (blkOf (g 12)) [bV (lruHit (lastN N F) kyk), sV (lruVic (N : Int) (lastN N F) kyk), bV (lruOutB (N : Int) (lastN N F) kyk)] 27]) (v := fun g => undef) (fun g => o_store (i := 0) (v := .agg #[bV (lruHit (lastN N F) kyk), sV (lruVic (N : Int) (lastN N F) kyk), bV (lruOutB (N : Int) (lastN N F) kyk)]) (by kernel_rfl) (by kernel_rfl) (by kernel_rfl) (by kernel_rfl) (by kernel_rfl)) (fun g => by kernel_rfl), ob_s (l := fun g => [blkR (blkOf (g 13)) [bV false, sV ⟨#[]⟩, bV false] 27]) (l' := fun g => [blkR (blkOf (g 13)) [bV (lruHit (lastN M F) kyk), sV (lruVic (M : Int) (lastN M F) kyk), bV (lruOutB (M : Int) (lastN M F) kyk)] 27]) (v := fun g => undef) (fun g => o_store (i := 0) (v := .agg #[bV (lruHit (lastN M F) kyk), sV (lruVic (M : Int) (lastN M F) kyk), bV (lruOutB (M : Int) (lastN M F) kyk)]) (by kernel_rfl) (by kernel_rfl) (by kernel_rfl) (by kernel_rfl) (by kernel_rfl)) (fun g => by kernel_rfl), trivial⟩
        intro g
        refine Ex'.sub (subB_spec [0, 1, 2, 7, 8, 9, 10, 11]) ?_
        refine Ex'.as [0, 1, 2, 15, 16] (σ' := [(0, iV (N : Int)), (1, iV (M : Int)), (2, .slice (some ⟨g6, off7, none⟩) xs.length cap), (7, pV b2 0), (8, pV b3 0), (9, iV (k : Int)), (10, pV (blkOf (g 12)) 0), (11, pV (blkOf (g 13)) 0)]) (Γ' := [oldR w0, lruR b2 (N : Int) (lastN N (bk F kyk)) (n1 + 1), lruR b3 (M : Int) (lastN M (bk F kyk)) (n2 + 1), blkR (blkOf (g 12)) [bV (lruHit (lastN N F) kyk), sV (lruVic (N : Int) (lastN N F) kyk), bV (lruOutB (N : Int) (lastN N F) kyk)] 27, blkR (blkOf (g 13)) [bV (lruHit (lastN M F) kyk), sV (lruVic (M : Int) (lastN M F) kyk), bV (lruOutB (M : Int) (lastN M F) kyk)] 27]) (by kernel_rfl) rfl (by kernel_rfl) (by kernel_rfl) ?_
        generalize blkOf (g 12) = b11
        generalize blkOf (g 13) = b12
        refine Ex'.next ?_
        refine Cd.seq ?_
        refine Cd.seq ?_
        refine Cd.region rfl ?_
        refine Sq.vals [0] (rest := [1, 2, 3, 4, 5, 6, 7, 8, 9, 10, 11, 12, 13, 14, 15, 16, 17, 18, 19, 20, 21, 22, 23, 24, 25, 26, 27, 28, 29, 30, 31, 32, 33, 34, 35, 36, 37, 38, 39, 40, 41]) [pV b11 0] (fun w => by kernel_rfl) ?_
        refine Sq.same [3] (l := [blkR b11 [bV (lruHit (lastN N F) kyk), sV (lruVic (N : Int) (lastN N F) kyk), bV (lruOutB (N : Int) (lastN N F) kyk)] 27]) (o_load (i := 0) (v := bV (lruHit (lastN N F) kyk)) (by kernel_rfl) (by kernel_rfl) (by kernel_rfl)) (by kernel_rfl) rfl (by kernel_rfl) rfl ?_
        refine Sq.vals [2] (rest := [3, 4, 5, 6, 7, 8, 9, 10, 11, 12, 13, 14, 15, 16, 17, 18, 19, 20, 21, 22, 23, 24, 25, 26, 27, 28, 29, 30, 31, 32, 33, 34, 35, 36, 37, 38, 39, 40, 41]) [bV (lruHit (lastN N F) kyk)] (fun w => by kernel_rfl) ?_
        refine Sq.caseB 64 (t := lruHit (lastN N F) kyk) rfl (fun h13 => ?_) (fun h13 => ?_)
        ·
          refine Sq.vals [3] (rest := [4, 5, 6, 7, 8, 9, 10, 11, 12, 13, 14, 15, 16, 17, 18, 19, 20, 21, 22, 23, 24, 25, 26, 27, 28, 29, 30, 31, 32, 33, 34, 35, 36, 37, 38, 39, 40, 41]) [pV b12 0] (fun w => by kernel_rfl) ?_
          refine Sq.same [4] (l := [blkR b12 [bV (lruHit (lastN M F) kyk), sV (lruVic (M : Int) (lastN M F) kyk), bV (lruOutB (M : Int) (lastN M F) kyk)] 27]) (o_load (i := 0) (v := bV (lruHit (lastN M F) kyk)) (by kernel_rfl) (by kernel_rfl) (by kernel_rfl)) (by kernel_rfl) rfl (by kernel_rfl) rfl ?_
          refine Sq.vals [5, 6, 7] (rest := [8, 9, 10, 11, 12, 13, 14, 15, 16, 17, 18, 19, 20, 21, 22, 23, 24, 25, 26, 27, 28, 29, 30, 31, 32, 33, 34, 35, 36, 37, 38, 39, 40, 41]) [bV (!(lruHit (lastN M F) kyk)), bV (!(lruHit (lastN M F) kyk)), bV (!(lruHit (lastN M F) kyk))] (fun w => by kernel_rfl) ?_
          refine Sq.re 69 rfl (congrArg Value.bool (show (!(lruHit (lastN M F) kyk)) = false from (by rw [stack_hit hNM h13]; rfl))) ?_
          refine Sq.vals [8] (rest := [9, 10, 11, 12, 13, 14, 15, 16, 17, 18, 19, 20, 21, 22, 23, 24, 25, 26, 27, 28, 29, 30, 31, 32, 33, 34, 35, 36, 37, 38, 39, 40, 41]) [pV b2 0] (fun w => by kernel_rfl) ?_
          refine Sq.same [1] (l := [lruR b2 (N : Int) (lastN N (bk F kyk)) (n1 + 1)]) (o_call (by kernel_rfl) Try.call17 (tl_Len (most := (N : Int)) (ks := lastN N (bk F kyk)) (n := n1 + 1))) (by kernel_rfl) rfl (by kernel_rfl) rfl ?_
          refine Sq.vals [10] (rest := [11, 12, 13, 14, 15, 16, 17, 18, 19, 20, 21, 22, 23, 24, 25, 26, 27, 28, 29, 30, 31, 32, 33, 34, 35, 36, 37, 38, 39, 40, 41]) [iV (N : Int)] (fun w => by kernel_rfl) ?_
          refine Sq.v (r := bV (decide (((lastN N (bk F kyk)).length : Int) > (N : Int)))) (pureV (by kernel_rfl) rfl fun w => by kernel_rfl) rfl (by kernel_rfl) ?_
          refine Sq.re 73 rfl (vF (by have := length_lastN N (bk F kyk); omega)) ?_
          refine Sq.vals [12, 13, 14] (rest := [15, 16, 17, 18, 19, 20, 21, 22, 23, 24, 25, 26, 27, 28, 29, 30, 31, 32, 33, 34, 35, 36, 37, 38, 39, 40, 41]) [bV false, bV false, pV b3 0] (fun w => by kernel_rfl) ?_
          refine Sq.same [2] (l := [lruR b3 (M : Int) (lastN M (bk F kyk)) (n2 + 1)]) (o_call (by kernel_rfl) Try.call17 (tl_Len (most := (M : Int)) (ks := lastN M (bk F kyk)) (n := n2 + 1))) (by kernel_rfl) rfl (by kernel_rfl) rfl ?_
          refine Sq.vals [16] (rest := [17, 18, 19, 20, 21, 22, 23, 24, 25, 26, 27, 28, 29, 30, 31, 32, 33, 34, 35, 36, 37, 38, 39, 40, 41]) [iV (M : Int)] (fun w => by kernel_rfl) ?_
          refine Sq.v (r := bV (decide (((lastN M (bk F kyk)).length : Int) > (M : Int)))) (pureV (by kernel_rfl) rfl fun w => by kernel_rfl) rfl (by kernel_rfl) ?_
          refine Sq.re 79 rfl (vF (by have := length_lastN M (bk F kyk); omega)) ?_
          refine Sq.vals [18, 19, 20, 21, 22] (rest := [23, 24, 25, 26, 27, 28, 29, 30, 31, 32, 33, 34, 35, 36, 37, 38, 39, 40, 41]) [bV false, bV false, iV (N : Int), bV (decide ((N : Int) > 0)), bV (decide ((N : Int) > 0))] (fun w => by kernel_rfl) ?_
          refine Sq.case 84 (p := (N : Int) > 0) rfl (fun h15 => ?_) (fun h15 => ?_)
          ·
            refine Sq.vals [23, 24, 25] (rest := [26, 27, 28, 29, 30, 31, 32, 33, 34, 35, 36, 37, 38, 39, 40, 41]) [pV b2 0, .slice (some ⟨g6, off7, none⟩) xs.length cap, iV (k : Int)] (fun w => by kernel_rfl) ?_
            refine Sq.v (r := pV g6 (off7 + k)) (o_idx (b := g6) (cap := cap) (e := 9) (off := off7) (n := xs.length) (kd := .i64) (q := (k : Int)) (i := k) (size := 1) (j := off7 + k) (by kernel_rfl) (by kernel_rfl) (by rfl) (by omega) Try.underlying22 (by kernel_rfl) (by omega)) rfl (by kernel_rfl) ?_
            refine Sq.same [0] (l := [oldR w0]) (o_loadOld (b := g6) (j := off7 + k) (u := sV kyk) (by kernel_rfl) (by kernel_rfl) (hrk 0 _ rfl)) (by kernel_rfl) rfl (by kernel_rfl) rfl ?_
            refine Sq.same [1] (l := [lruR b2 (N : Int) (lastN N (bk F kyk)) (n1 + 1)]) (o_call (by kernel_rfl) Try.call18 ((tl_Has (most := (N : Int)) (ks := lastN N (bk F kyk)) (n := n1 + 1) kyk).re (vT (mem_lastN_snoc (by omega) F kyk)))) (by kernel_rfl) rfl (by kernel_rfl) rfl ?_
            refine Sq.vals [29, 30, 31, 32, 33] (rest := [34, 35, 36, 37, 38, 39, 40, 41]) [bV false, bV false, bV false, bV false, pV b11 2] (fun w => by kernel_rfl) ?_
            refine Sq.same [3] (l := [blkR b11 [bV (lruHit (lastN N F) kyk), sV (lruVic (N : Int) (lastN N F) kyk), bV (lruOutB (N : Int) (lastN N F) kyk)] 27]) (o_load (i := 2) (v := bV (lruOutB (N : Int) (lastN N F) kyk)) (by kernel_rfl) (by kernel_rfl) (by kernel_rfl)) (by kernel_rfl) rfl (by kernel_rfl) rfl ?_
            refine Sq.vals [35] (rest := [36, 37, 38, 39, 40, 41]) [bV (lruOutB (N : Int) (lastN N F) kyk)] (fun w => by kernel_rfl) ?_
            refine Sq.caseB 97 (t := lruOutB (N : Int) (lastN N F) kyk) rfl (fun h16 => ?_) (fun h16 => ?_)
            ·
              refine Sq.vals [36, 37] (rest := [38, 39, 40, 41]) [pV b2 0, pV b11 1] (fun w => by kernel_rfl) ?_
              refine Sq.same [3] (l := [blkR b11 [bV (lruHit (lastN N F) kyk), sV (lruVic (N : Int) (lastN N F) kyk), bV (lruOutB (N : Int) (lastN N F) kyk)] 27]) (o_load (i := 1) (v := sV (lruVic (N : Int) (lastN N F) kyk)) (by kernel_rfl) (by kernel_rfl) (by kernel_rfl)) (by kernel_rfl) rfl (by kernel_rfl) rfl ?_
              refine Sq.same [1] (l := [lruR b2 (N : Int) (lastN N (bk F kyk)) (n1 + 1)]) (o_call (by kernel_rfl) Try.call18 ((tl_Has (most := (N : Int)) (ks := lastN N (bk F kyk)) (n := n1 + 1) (lruVic (N : Int) (lastN N F) kyk)).re (vF (stack_gone hF h16)))) (by kernel_rfl) rfl (by kernel_rfl) rfl ?_
              refine Sq.vals [40, 41] (rest := []) [bV false, bV false] (fun w => by kernel_rfl) ?_
              refine Sq.done ?_
              refine Ex'.next ?_
              refine Cd.condF (by kernel_rfl) ?_
              refine Cd.skip ?_
              refine Ex'.next ?_
              refine Cd.seq ?_
              refine Cd.region rfl ?_
              refine Sq.vals [0] (rest := [1, 2]) [pV b2 0] (fun w => by kernel_rfl) ?_
              refine Sq.ex [1] (l := [lruR b2 (N : Int) (lastN N (bk F kyk)) (n1 + 1)]) (o_call (by kernel_rfl) Try.call19 (tl_Keys (most := (N : Int)) (ks := lastN N (bk F kyk)) (n := n1 + 1) (by omega))) (by kernel_rfl) rfl (by kernel_rfl) (fun _ => Nat.le_of_ble_eq_true (by kernel_rfl)) ?_; rintro v17 _
              refine Sq.fact (i := 5) (R := rowR 9 1 v17 ((lastN N (bk F kyk)).length) ((lastN N (bk F kyk)).map Value.string)) (by kernel_rfl) row_slice ?_; rintro ⟨a18, c19, rfl, hc19, hc19'⟩
              have hc19'' : c19 ≤ 9223372036854775807 := hc19'
              refine Sq.vals [2] (rest := []) [.slice a18 ((lastN N (bk F kyk)).length) c19] (fun w => by kernel_rfl) ?_
              refine Sq.done ?_
              refine Ex'.next ?_
              refine Cd.seq ?_
              refine Cd.region rfl ?_
              refine Sq.vals [0] (rest := []) [iV 0] (fun w => by kernel_rfl) ?_
              refine Sq.done ?_
              refine Ex'.next ?_
              refine Cd.block ?_
              refine Cd.loop (ι := Nat) (fun j => j ≤ (lastN N (bk F kyk)).length) (fun j => (lastN N (bk F kyk)).length - j) (fun j => [(0, iV (N : Int)), (1, iV (M : Int)), (2, .slice (some ⟨g6, off7, none⟩) xs.length cap), (7, pV b2 0), (8, pV b3 0), (9, iV (k : Int)), (12, .slice a18 ((lastN N (bk F kyk)).length) c19), (13, iV (j : Int))]) (fun j => [oldR w0, lruR b2 (N : Int) (lastN N (bk F kyk)) (n1 + 1), lruR b3 (M : Int) (lastN M (bk F kyk)) (n2 + 1), blkR b11 [bV (lruHit (lastN N F) kyk), sV (lruVic (N : Int) (lastN N F) kyk), bV (lruOutB (N : Int) (lastN N F) kyk)] 27, blkR b12 [bV (lruHit (lastN M F) kyk), sV (lruVic (M : Int) (lastN M F) kyk), bV (lruOutB (M : Int) (lastN M F) kyk)] 27, rowR 9 1 (.slice a18 ((lastN N (bk F kyk)).length) c19) ((lastN N (bk F kyk)).length) ((lastN N (bk F kyk)).map Value.string)]) 0 (Nat.zero_le _) (subB_eq (l := [0, 1, 2, 7, 8, 9, 12, 13]) (by kernel_rfl)) (fun w hw => hw.pickB [0, 1, 2, 3, 4, 5] (by kernel_rfl) (by kernel_rfl) (by kernel_rfl)) ?_
              rintro j hL20
              try dsimp only at hL20 ⊢
              have hj := hL20
              refine Cd.seq ?_
              refine Cd.seq ?_
              refine Cd.region rfl ?_
              refine Sq.vals [0, 1, 2, 3] (rest := []) [iV (j : Int), .slice a18 ((lastN N (bk F kyk)).length) c19, iV ((lastN N (bk F kyk)).length : Int), bV (decide ((j : Int) < ((lastN N (bk F kyk)).length : Int)))] (fun w => by kernel_rfl) ?_
              refine Sq.done ?_
              refine Ex'.next ?_
              refine Cd.case (p := (j : Int) < ((lastN N (bk F kyk)).length : Int)) (by kernel_rfl) (fun h21 => ?_) (fun h21 => ?_)
              ·
                refine Cd.fact (i := 5) (R := rowR 9 1 (.slice a18 ((lastN N (bk F kyk)).length) c19) ((lastN N (bk F kyk)).length) ((lastN N (bk F kyk)).map Value.string)) (by kernel_rfl) (row_addr (by omega)) ?_; rintro ⟨b22, rfl⟩
                refine Cd.skip ?_
                refine Ex'.next ?_
                refine Cd.seq ?_
                refine Cd.block ?_
                refine Cd.seq ?_
                refine Cd.region rfl ?_
                refine Sq.vals [0, 1, 2] (rest := [3, 4, 5, 6]) [pV b3 0, .slice (some ⟨b22, 0, none⟩) ((lastN N (bk F kyk)).length) c19, iV (j : Int)] (fun w => by kernel_rfl) ?_
                refine Sq.v (r := pV b22 j) (o_idx (b := b22) (cap := c19) (e := 9) (off := 0) (n := (lastN N (bk F kyk)).length) (kd := .i64) (q := (j : Int)) (i := j) (size := 1) (j := j) (by kernel_rfl) (by kernel_rfl) (by rfl) (by omega) Try.underlying22 (by kernel_rfl) (by omega)) rfl (by kernel_rfl) ?_
                refine Sq.same [5] (l := [rowR 9 1 (.slice (some ⟨b22, 0, none⟩) ((lastN N (bk F kyk)).length) c19) ((lastN N (bk F kyk)).length) ((lastN N (bk F kyk)).map Value.string)]) (o_loadRow (i := j) (u := sV ((lastN N (bk F kyk)).getD j ⟨#[]⟩)) (by kernel_rfl) (by omega) (by kernel_rfl) (get_map (by omega))) (by kernel_rfl) rfl (by kernel_rfl) rfl ?_
                refine Sq.same [2] (l := [lruR b3 (M : Int) (lastN M (bk F kyk)) (n2 + 1)]) (o_call (by kernel_rfl) Try.call18 ((tl_Has (most := (M : Int)) (ks := lastN M (bk F kyk)) (n := n2 + 1) ((lastN N (bk F kyk)).getD j ⟨#[]⟩)).re (vT (lastN_sub hNM (getD_mem' (by omega)))))) (by kernel_rfl) rfl (by kernel_rfl) rfl ?_
                refine Sq.vals [6] (rest := []) [bV false] (fun w => by kernel_rfl) ?_
                refine Sq.done ?_
                refine Ex'.next ?_
                refine Cd.condF (by kernel_rfl) ?_
                refine Cd.skip ?_
                refine Ex'.blockNormal ?_
                refine Ex'.next ?_
                refine Cd.region rfl ?_
                refine Sq.vals [0] (rest := [1, 2]) [iV (j : Int)] (fun w => by kernel_rfl) ?_
                refine Sq.v (r := iV ((j : Int) + 1)) (o_add (k := .i64) (a := (j : Int)) (b := 1) (c := (j : Int) + 1) (by kernel_rfl) (by kernel_rfl) (w64 rfl (by omega))) rfl (by kernel_rfl) ?_
                refine Sq.vals [2] (rest := []) [iV ((j : Int) + 1)] (fun w => by kernel_rfl) ?_
                refine Sq.done ?_
                refine Ex'.round (g := j) (j + 1) ?_ ?_ (subB_eq (l := [0, 1, 2, 7, 8, 9, 12, 13]) (by kernel_rfl)) (fun w hw => hw.pickB [0, 1, 2, 3, 4, 5] (by kernel_rfl) (by kernel_rfl) (by kernel_rfl))
                · (try dsimp only); exact (by omega : j + 1 ≤ (lastN N (bk F kyk)).length)
                · omega
              ·
                refine Cd.exit ?_
                refine Ex'.thenExit ?_
                refine Ex'.thenExit ?_
                refine Ex'.blockHit ?_
                refine Ex'.blockNormal ?_
                refine Ex'.next ?_
                refine Cd.region rfl ?_
                refine Sq.vals [0] (rest := [1, 2]) [iV (k : Int)] (fun w => by kernel_rfl) ?_
                refine Sq.v (r := iV ((k : Int) + 1)) (o_add (k := .i64) (a := (k : Int)) (b := 1) (c := (k : Int) + 1) (by kernel_rfl) (by kernel_rfl) (w64 rfl (by omega))) rfl (by kernel_rfl) ?_
                refine Sq.vals [2] (rest := []) [iV ((k : Int) + 1)] (fun w => by kernel_rfl) ?_
                refine Sq.done ?_
                refine Ex'.round (g := (k, F, n1, n2)) (k + 1, (bk F kyk), n1 + 1, n2 + 1) ?_ ?_ (subB_eq (l := [0, 1, 2, 7, 8, 9]) (by kernel_rfl)) (fun w hw => hw.pickB [0, 1, 2] (by kernel_rfl) (by kernel_rfl) (by kernel_rfl))
                · (try dsimp only); exact ⟨by omega, nodup_bk hF _, by omega, by omega⟩
                · omega
            ·
              refine Sq.vals [36, 37, 38, 39, 40, 41] (rest := []) [undef, undef, undef, undef, bV false, bV false] (fun w => by kernel_rfl) ?_
              refine Sq.done ?_
              refine Ex'.next ?_
              refine Cd.condF (by kernel_rfl) ?_
              refine Cd.skip ?_
              refine Ex'.next ?_
              refine Cd.seq ?_
              refine Cd.region rfl ?_
              refine Sq.vals [0] (rest := [1, 2]) [pV b2 0] (fun w => by kernel_rfl) ?_
              refine Sq.ex [1] (l := [lruR b2 (N : Int) (lastN N (bk F kyk)) (n1 + 1)]) (o_call (by kernel_rfl) Try.call19 (tl_Keys (most := (N : Int)) (ks := lastN N (bk F kyk)) (n := n1 + 1) (by omega))) (by kernel_rfl) rfl (by kernel_rfl) (fun _ => Nat.le_of_ble_eq_true (by kernel_rfl)) ?_; rintro v23 _
              refine Sq.fact (i := 5) (R := rowR 9 1 v23 ((lastN N (bk F kyk)).length) ((lastN N (bk F kyk)).map Value.string)) (by kernel_rfl) row_slice ?_; rintro ⟨a24, c25, rfl, hc25, hc25'⟩
              have hc25'' : c25 ≤ 9223372036854775807 := hc25'
              refine Sq.vals [2] (rest := []) [.slice a24 ((lastN N (bk F kyk)).length) c25] (fun w => by kernel_rfl) ?_
              refine Sq.done ?_
              refine Ex'.next ?_
              refine Cd.seq ?_
              refine Cd.region rfl ?_
              refine Sq.vals [0] (rest := []) [iV 0] (fun w => by kernel_rfl) ?_
              refine Sq.done ?_
              refine Ex'.next ?_
              refine Cd.block ?_
              refine Cd.loop (ι := Nat) (fun j => j ≤ (lastN N (bk F kyk)).length) (fun j => (lastN N (bk F kyk)).length - j) (fun j => [(0, iV (N : Int)), (1, iV (M : Int)), (2, .slice (some ⟨g6, off7, none⟩) xs.length cap), (7, pV b2 0), (8, pV b3 0), (9, iV (k : Int)), (12, .slice a24 ((lastN N (bk F kyk)).length) c25), (13, iV (j : Int))]) (fun j => [oldR w0, lruR b2 (N : Int) (lastN N (bk F kyk)) (n1 + 1), lruR b3 (M : Int) (lastN M (bk F kyk)) (n2 + 1), blkR b11 [bV (lruHit (lastN N F) kyk), sV (lruVic (N : Int) (lastN N F) kyk), bV (lruOutB (N : Int) (lastN N F) kyk)] 27, blkR b12 [bV (lruHit (lastN M F) kyk), sV (lruVic (M : Int) (lastN M F) kyk), bV (lruOutB (M : Int) (lastN M F) kyk)] 27, rowR 9 1 (.slice a24 ((lastN N (bk F kyk)).length) c25) ((lastN N (bk F kyk)).length) ((lastN N (bk F kyk)).map Value.string)]) 0 (Nat.zero_le _) (subB_eq (l := [0, 1, 2, 7, 8, 9, 12, 13]) (by kernel_rfl)) (fun w hw => hw.pickB [0, 1, 2, 3, 4, 5] (by kernel_rfl) (by kernel_rfl) (by kernel_rfl)) ?_
              rintro j hL26
              try dsimp only at hL26 ⊢
              have hj := hL26
              refine Cd.seq ?_
              refine Cd.seq ?_
              refine Cd.region rfl ?_
              refine Sq.vals [0, 1, 2, 3] (rest := []) [iV (j : Int), .slice a24 ((lastN N (bk F kyk)).length) c25, iV ((lastN N (bk F kyk)).length : Int), bV (decide ((j : Int) < ((lastN N (bk F kyk)).length : Int)))] (fun w => by kernel_rfl) ?_
              refine Sq.done ?_
              refine Ex'.next ?_
              refine Cd.case (p := (j : Int) < ((lastN N (bk F kyk)).length : Int)) (by kernel_rfl) (fun h27 => ?_) (fun h27 => ?_)
              ·
                refine Cd.fact (i := 5) (R := rowR 9 1 (.slice a24 ((lastN N (bk F kyk)).length) c25) ((lastN N (bk F kyk)).length) ((lastN N (bk F kyk)).map Value.string)) (by kernel_rfl) (row_addr (by omega)) ?_; rintro ⟨b28, rfl⟩
                refine Cd.skip ?_
                refine Ex'.next ?_
                refine Cd.seq ?_
                refine Cd.block ?_
                refine Cd.seq ?_
                refine Cd.region rfl ?_
                refine Sq.vals [0, 1, 2] (rest := [3, 4, 5, 6]) [pV b3 0, .slice (some ⟨b28, 0, none⟩) ((lastN N (bk F kyk)).length) c25, iV (j : Int)] (fun w => by kernel_rfl) ?_
                refine Sq.v (r := pV b28 j) (o_idx (b := b28) (cap := c25) (e := 9) (off := 0) (n := (lastN N (bk F kyk)).length) (kd := .i64) (q := (j : Int)) (i := j) (size := 1) (j := j) (by kernel_rfl) (by kernel_rfl) (by rfl) (by omega) Try.underlying22 (by kernel_rfl) (by omega)) rfl (by kernel_rfl) ?_
                refine Sq.same [5] (l := [rowR 9 1 (.slice (some ⟨b28, 0, none⟩) ((lastN N (bk F kyk)).length) c25) ((lastN N (bk F kyk)).length) ((lastN N (bk F kyk)).map Value.string)]) (o_loadRow (i := j) (u := sV ((lastN N (bk F kyk)).getD j ⟨#[]⟩)) (by kernel_rfl) (by omega) (by kernel_rfl) (get_map (by omega))) (by kernel_rfl) rfl (by kernel_rfl) rfl ?_
                refine Sq.same [2] (l := [lruR b3 (M : Int) (lastN M (bk F kyk)) (n2 + 1)]) (o_call (by kernel_rfl) Try.call18 ((tl_Has (most := (M : Int)) (ks := lastN M (bk F kyk)) (n := n2 + 1) ((lastN N (bk F kyk)).getD j ⟨#[]⟩)).re (vT (lastN_sub hNM (getD_mem' (by omega)))))) (by kernel_rfl) rfl (by kernel_rfl) rfl ?_
                refine Sq.vals [6] (rest := []) [bV false] (fun w => by kernel_rfl) ?_
                refine Sq.done ?_
                refine Ex'.next ?_
                refine Cd.condF (by kernel_rfl) ?_
                refine Cd.skip ?_
                refine Ex'.blockNormal ?_
                refine Ex'.next ?_
                refine Cd.region rfl ?_
                refine Sq.vals [0] (rest := [1, 2]) [iV (j : Int)] (fun w => by kernel_rfl) ?_
                refine Sq.v (r := iV ((j : Int) + 1)) (o_add (k := .i64) (a := (j : Int)) (b := 1) (c := (j : Int) + 1) (by kernel_rfl) (by kernel_rfl) (w64 rfl (by omega))) rfl (by kernel_rfl) ?_
                refine Sq.vals [2] (rest := []) [iV ((j : Int) + 1)] (fun w => by kernel_rfl) ?_
                refine Sq.done ?_
                refine Ex'.round (g := j) (j + 1) ?_ ?_ (subB_eq (l := [0, 1, 2, 7, 8, 9, 12, 13]) (by kernel_rfl)) (fun w hw => hw.pickB [0, 1, 2, 3, 4, 5] (by kernel_rfl) (by kernel_rfl) (by kernel_rfl))
                · (try dsimp only); exact (by omega : j + 1 ≤ (lastN N (bk F kyk)).length)
                · omega
              ·
                refine Cd.exit ?_
                refine Ex'.thenExit ?_
                refine Ex'.thenExit ?_
                refine Ex'.blockHit ?_
                refine Ex'.blockNormal ?_
                refine Ex'.next ?_
                refine Cd.region rfl ?_
                refine Sq.vals [0] (rest := [1, 2]) [iV (k : Int)] (fun w => by kernel_rfl) ?_
                refine Sq.v (r := iV ((k : Int) + 1)) (o_add (k := .i64) (a := (k : Int)) (b := 1) (c := (k : Int) + 1) (by kernel_rfl) (by kernel_rfl) (w64 rfl (by omega))) rfl (by kernel_rfl) ?_
                refine Sq.vals [2] (rest := []) [iV ((k : Int) + 1)] (fun w => by kernel_rfl) ?_
                refine Sq.done ?_
                refine Ex'.round (g := (k, F, n1, n2)) (k + 1, (bk F kyk), n1 + 1, n2 + 1) ?_ ?_ (subB_eq (l := [0, 1, 2, 7, 8, 9]) (by kernel_rfl)) (fun w hw => hw.pickB [0, 1, 2] (by kernel_rfl) (by kernel_rfl) (by kernel_rfl))
                · (try dsimp only); exact ⟨by omega, nodup_bk hF _, by omega, by omega⟩
                · omega
          ·
            refine Sq.vals [23, 24, 25, 26, 27, 28, 29, 30, 31, 32, 33] (rest := [34, 35, 36, 37, 38, 39, 40, 41]) [undef, undef, undef, undef, undef, undef, undef, bV false, bV false, bV false, pV b11 2] (fun w => by kernel_rfl) ?_
            refine Sq.same [3] (l := [blkR b11 [bV (lruHit (lastN N F) kyk), sV (lruVic (N : Int) (lastN N F) kyk), bV (lruOutB (N : Int) (lastN N F) kyk)] 27]) (o_load (i := 2) (v := bV (lruOutB (N : Int) (lastN N F) kyk)) (by kernel_rfl) (by kernel_rfl) (by kernel_rfl)) (by kernel_rfl) rfl (by kernel_rfl) rfl ?_
            refine Sq.vals [35] (rest := [36, 37, 38, 39, 40, 41]) [bV (lruOutB (N : Int) (lastN N F) kyk)] (fun w => by kernel_rfl) ?_
            refine Sq.caseB 97 (t := lruOutB (N : Int) (lastN N F) kyk) rfl (fun h29 => ?_) (fun h29 => ?_)
            ·
              refine Sq.vals [36, 37] (rest := [38, 39, 40, 41]) [pV b2 0, pV b11 1] (fun w => by kernel_rfl) ?_
              refine Sq.same [3] (l := [blkR b11 [bV (lruHit (lastN N F) kyk), sV (lruVic (N : Int) (lastN N F) kyk), bV (lruOutB (N : Int) (lastN N F) kyk)] 27]) (o_load (i := 1) (v := sV (lruVic (N : Int) (lastN N F) kyk)) (by kernel_rfl) (by kernel_rfl) (by kernel_rfl)) (by kernel_rfl) rfl (by kernel_rfl) rfl ?_
              refine Sq.same [1] (l := [lruR b2 (N : Int) (lastN N (bk F kyk)) (n1 + 1)]) (o_call (by kernel_rfl) Try.call18 ((tl_Has (most := (N : Int)) (ks := lastN N (bk F kyk)) (n := n1 + 1) (lruVic (N : Int) (lastN N F) kyk)).re (vF (stack_gone hF h29)))) (by kernel_rfl) rfl (by kernel_rfl) rfl ?_
              refine Sq.vals [40, 41] (rest := []) [bV false, bV false] (fun w => by kernel_rfl) ?_
              refine Sq.done ?_
              refine Ex'.next ?_
              refine Cd.condF (by kernel_rfl) ?_
              refine Cd.skip ?_
              refine Ex'.next ?_
              refine Cd.seq ?_
              refine Cd.region rfl ?_
              refine Sq.vals [0] (rest := [1, 2]) [pV b2 0] (fun w => by kernel_rfl) ?_
              refine Sq.ex [1] (l := [lruR b2 (N : Int) (lastN N (bk F kyk)) (n1 + 1)]) (o_call (by kernel_rfl) Try.call19 (tl_Keys (most := (N : Int)) (ks := lastN N (bk F kyk)) (n := n1 + 1) (by omega))) (by kernel_rfl) rfl (by kernel_rfl) (fun _ => Nat.le_of_ble_eq_true (by kernel_rfl)) ?_; rintro v30 _
              refine Sq.fact (i := 5) (R := rowR 9 1 v30 ((lastN N (bk F kyk)).length) ((lastN N (bk F kyk)).map Value.string)) (by kernel_rfl) row_slice ?_; rintro ⟨a31, c32, rfl, hc32, hc32'⟩
              have hc32'' : c32 ≤ 9223372036854775807 := hc32'
              refine Sq.vals [2] (rest := []) [.slice a31 ((lastN N (bk F kyk)).length) c32] (fun w => by kernel_rfl) ?_
              refine Sq.done ?_
              refine Ex'.next ?_
              refine Cd.seq ?_
              refine Cd.region rfl ?_
              refine Sq.vals [0] (rest := []) [iV 0] (fun w => by kernel_rfl) ?_
              refine Sq.done ?_
              refine Ex'.next ?_
              refine Cd.block ?_
              refine Cd.loop (ι := Nat) (fun j => j ≤ (lastN N (bk F kyk)).length) (fun j => (lastN N (bk F kyk)).length - j) (fun j => [(0, iV (N : Int)), (1, iV (M : Int)), (2, .slice (some ⟨g6, off7, none⟩) xs.length cap), (7, pV b2 0), (8, pV b3 0), (9, iV (k : Int)), (12, .slice a31 ((lastN N (bk F kyk)).length) c32), (13, iV (j : Int))]) (fun j => [oldR w0, lruR b2 (N : Int) (lastN N (bk F kyk)) (n1 + 1), lruR b3 (M : Int) (lastN M (bk F kyk)) (n2 + 1), blkR b11 [bV (lruHit (lastN N F) kyk), sV (lruVic (N : Int) (lastN N F) kyk), bV (lruOutB (N : Int) (lastN N F) kyk)] 27, blkR b12 [bV (lruHit (lastN M F) kyk), sV (lruVic (M : Int) (lastN M F) kyk), bV (lruOutB (M : Int) (lastN M F) kyk)] 27, rowR 9 1 (.slice a31 ((lastN N (bk F kyk)).length) c32) ((lastN N (bk F kyk)).length) ((lastN N (bk F kyk)).map Value.string)]) 0 (Nat.zero_le _) (subB_eq (l := [0, 1, 2, 7, 8, 9, 12, 13]) (by kernel_rfl)) (fun w hw => hw.pickB [0, 1, 2, 3, 4, 5] (by kernel_rfl) (by kernel_rfl) (by kernel_rfl)) ?_
              rintro j hL33
              try dsimp only at hL33 ⊢
              have hj := hL33
              refine Cd.seq ?_
              refine Cd.seq ?_
              refine Cd.region rfl ?_
              refine Sq.vals [0, 1, 2, 3] (rest := []) [iV (j : Int), .slice a31 ((lastN N (bk F kyk)).length) c32, iV ((lastN N (bk F kyk)).length : Int), bV (decide ((j : Int) < ((lastN N (bk F kyk)).length : Int)))] (fun w => by kernel_rfl) ?_
              refine Sq.done ?_
              refine Ex'.next ?_
              refine Cd.case (p := (j : Int) < ((lastN N (bk F kyk)).length : Int)) (by kernel_rfl) (fun h34 => ?_) (fun h34 => ?_)
              ·
                refine Cd.fact (i := 5) (R := rowR 9 1 (.slice a31 ((lastN N (bk F kyk)).length) c32) ((lastN N (bk F kyk)).length) ((lastN N (bk F kyk)).map Value.string)) (by kernel_rfl) (row_addr (by omega)) ?_; rintro ⟨b35, rfl⟩
                refine Cd.skip ?_
                refine Ex'.next ?_
                refine Cd.seq ?_
                refine Cd.block ?_
                refine Cd.seq ?_
                refine Cd.region rfl ?_
                refine Sq.vals [0, 1, 2] (rest := [3, 4, 5, 6]) [pV b3 0, .slice (some ⟨b35, 0, none⟩) ((lastN N (bk F kyk)).length) c32, iV (j : Int)] (fun w => by kernel_rfl) ?_
                refine Sq.v (r := pV b35 j) (o_idx (b := b35) (cap := c32) (e := 9) (off := 0) (n := (lastN N (bk F kyk)).length) (kd := .i64) (q := (j : Int)) (i := j) (size := 1) (j := j) (by kernel_rfl) (by kernel_rfl) (by rfl) (by omega) Try.underlying22 (by kernel_rfl) (by omega)) rfl (by kernel_rfl) ?_
                refine Sq.same [5] (l := [rowR 9 1 (.slice (some ⟨b35, 0, none⟩) ((lastN N (bk F kyk)).length) c32) ((lastN N (bk F kyk)).length) ((lastN N (bk F kyk)).map Value.string)]) (o_loadRow (i := j) (u := sV ((lastN N (bk F kyk)).getD j ⟨#[]⟩)) (by kernel_rfl) (by omega) (by kernel_rfl) (get_map (by omega))) (by kernel_rfl) rfl (by kernel_rfl) rfl ?_
                refine Sq.same [2] (l := [lruR b3 (M : Int) (lastN M (bk F kyk)) (n2 + 1)]) (o_call (by kernel_rfl) Try.call18 ((tl_Has (most := (M : Int)) (ks := lastN M (bk F kyk)) (n := n2 + 1) ((lastN N (bk F kyk)).getD j ⟨#[]⟩)).re (vT (lastN_sub hNM (getD_mem' (by omega)))))) (by kernel_rfl) rfl (by kernel_rfl) rfl ?_
                refine Sq.vals [6] (rest := []) [bV false] (fun w => by kernel_rfl) ?_
                refine Sq.done ?_
                refine Ex'.next ?_
                refine Cd.condF (by kernel_rfl) ?_
                refine Cd.skip ?_
                refine Ex'.blockNormal ?_
                refine Ex'.next ?_
                refine Cd.region rfl ?_
                refine Sq.vals [0] (rest := [1, 2]) [iV (j : Int)] (fun w => by kernel_rfl) ?_
                refine Sq.v (r := iV ((j : Int) + 1)) (o_add (k := .i64) (a := (j : Int)) (b := 1) (c := (j : Int) + 1) (by kernel_rfl) (by kernel_rfl) (w64 rfl (by omega))) rfl (by kernel_rfl) ?_
                refine Sq.vals [2] (rest := []) [iV ((j : Int) + 1)] (fun w => by kernel_rfl) ?_
                refine Sq.done ?_
                refine Ex'.round (g := j) (j + 1) ?_ ?_ (subB_eq (l := [0, 1, 2, 7, 8, 9, 12, 13]) (by kernel_rfl)) (fun w hw => hw.pickB [0, 1, 2, 3, 4, 5] (by kernel_rfl) (by kernel_rfl) (by kernel_rfl))
                · (try dsimp only); exact (by omega : j + 1 ≤ (lastN N (bk F kyk)).length)
                · omega
              ·
                refine Cd.exit ?_
                refine Ex'.thenExit ?_
                refine Ex'.thenExit ?_
                refine Ex'.blockHit ?_
                refine Ex'.blockNormal ?_
                refine Ex'.next ?_
                refine Cd.region rfl ?_
                refine Sq.vals [0] (rest := [1, 2]) [iV (k : Int)] (fun w => by kernel_rfl) ?_
                refine Sq.v (r := iV ((k : Int) + 1)) (o_add (k := .i64) (a := (k : Int)) (b := 1) (c := (k : Int) + 1) (by kernel_rfl) (by kernel_rfl) (w64 rfl (by omega))) rfl (by kernel_rfl) ?_
                refine Sq.vals [2] (rest := []) [iV ((k : Int) + 1)] (fun w => by kernel_rfl) ?_
                refine Sq.done ?_
                refine Ex'.round (g := (k, F, n1, n2)) (k + 1, (bk F kyk), n1 + 1, n2 + 1) ?_ ?_ (subB_eq (l := [0, 1, 2, 7, 8, 9]) (by kernel_rfl)) (fun w hw => hw.pickB [0, 1, 2] (by kernel_rfl) (by kernel_rfl) (by kernel_rfl))
                · (try dsimp only); exact ⟨by omega, nodup_bk hF _, by omega, by omega⟩
                · omega
            ·
              refine Sq.vals [36, 37, 38, 39, 40, 41] (rest := []) [undef, undef, undef, undef, bV false, bV false] (fun w => by kernel_rfl) ?_
              refine Sq.done ?_
              refine Ex'.next ?_
              refine Cd.condF (by kernel_rfl) ?_
              refine Cd.skip ?_
              refine Ex'.next ?_
              refine Cd.seq ?_
              refine Cd.region rfl ?_
              refine Sq.vals [0] (rest := [1, 2]) [pV b2 0] (fun w => by kernel_rfl) ?_
              refine Sq.ex [1] (l := [lruR b2 (N : Int) (lastN N (bk F kyk)) (n1 + 1)]) (o_call (by kernel_rfl) Try.call19 (tl_Keys (most := (N : Int)) (ks := lastN N (bk F kyk)) (n := n1 + 1) (by omega))) (by kernel_rfl) rfl (by kernel_rfl) (fun _ => Nat.le_of_ble_eq_true (by kernel_rfl)) ?_; rintro v36 _
              refine Sq.fact (i := 5) (R := rowR 9 1 v36 ((lastN N (bk F kyk)).length) ((lastN N (bk F kyk)).map Value.string)) (by kernel_rfl) row_slice ?_; rintro ⟨a37, c38, rfl, hc38, hc38'⟩
              have hc38'' : c38 ≤ 9223372036854775807 := hc38'
              refine Sq.vals [2] (rest := []) [.slice a37 ((lastN N (bk F kyk)).length) c38] (fun w => by kernel_rfl) ?_
              refine Sq.done ?_
              refine Ex'.next ?_
              refine Cd.seq ?_
              refine Cd.region rfl ?_
              refine Sq.vals [0] (rest := []) [iV 0] (fun w => by kernel_rfl) ?_
              refine Sq.done ?_
              refine Ex'.next ?_
              refine Cd.block ?_
              refine Cd.loop (ι := Nat) (fun j => j ≤ (lastN N (bk F kyk)).length) (fun j => (lastN N (bk F kyk)).length - j) (fun j => [(0, iV (N : Int)), (1, iV (M : Int)), (2, .slice (some ⟨g6, off7, none⟩) xs.length cap), (7, pV b2 0), (8, pV b3 0), (9, iV (k : Int)), (12, .slice a37 ((lastN N (bk F kyk)).length) c38), (13, iV (j : Int))]) (fun j => [oldR w0, lruR b2 (N : Int) (lastN N (bk F kyk)) (n1 + 1), lruR b3 (M : Int) (lastN M (bk F kyk)) (n2 + 1), blkR b11 [bV (lruHit (lastN N F) kyk), sV (lruVic (N : Int) (lastN N F) kyk), bV (lruOutB (N : Int) (lastN N F) kyk)] 27, blkR b12 [bV (lruHit (lastN M F) kyk), sV (lruVic (M : Int) (lastN M F) kyk), bV (lruOutB (M : Int) (lastN M F) kyk)] 27, rowR 9 1 (.slice a37 ((lastN N (bk F kyk)).length) c38) ((lastN N (bk F kyk)).length) ((lastN N (bk F kyk)).map Value.string)]) 0 (Nat.zero_le _) (subB_eq (l := [0, 1, 2, 7, 8, 9, 12, 13]) (by kernel_rfl)) (fun w hw => hw.pickB [0, 1, 2, 3, 4, 5] (by kernel_rfl) (by kernel_rfl) (by kernel_rfl)) ?_
              rintro j hL39
              try dsimp only at hL39 ⊢
              have hj := hL39
              refine Cd.seq ?_
              refine Cd.seq ?_
              refine Cd.region rfl ?_
              refine Sq.vals [0, 1, 2, 3] (rest := []) [iV (j : Int), .slice a37 ((lastN N (bk F kyk)).length) c38, iV ((lastN N (bk F kyk)).length : Int), bV (decide ((j : Int) < ((lastN N (bk F kyk)).length : Int)))] (fun w => by kernel_rfl) ?_
              refine Sq.done ?_
              refine Ex'.next ?_
              refine Cd.case (p := (j : Int) < ((lastN N (bk F kyk)).length : Int)) (by kernel_rfl) (fun h40 => ?_) (fun h40 => ?_)
              ·
                refine Cd.fact (i := 5) (R := rowR 9 1 (.slice a37 ((lastN N (bk F kyk)).length) c38) ((lastN N (bk F kyk)).length) ((lastN N (bk F kyk)).map Value.string)) (by kernel_rfl) (row_addr (by omega)) ?_; rintro ⟨b41, rfl⟩
                refine Cd.skip ?_
                refine Ex'.next ?_
                refine Cd.seq ?_
                refine Cd.block ?_
                refine Cd.seq ?_
                refine Cd.region rfl ?_
                refine Sq.vals [0, 1, 2] (rest := [3, 4, 5, 6]) [pV b3 0, .slice (some ⟨b41, 0, none⟩) ((lastN N (bk F kyk)).length) c38, iV (j : Int)] (fun w => by kernel_rfl) ?_
                refine Sq.v (r := pV b41 j) (o_idx (b := b41) (cap := c38) (e := 9) (off := 0) (n := (lastN N (bk F kyk)).length) (kd := .i64) (q := (j : Int)) (i := j) (size := 1) (j := j) (by kernel_rfl) (by kernel_rfl) (by rfl) (by omega) Try.underlying22 (by kernel_rfl) (by omega)) rfl (by kernel_rfl) ?_
                refine Sq.same [5] (l := [rowR 9 1 (.slice (some ⟨b41, 0, none⟩) ((lastN N (bk F kyk)).length) c38) ((lastN N (bk F kyk)).length) ((lastN N (bk F kyk)).map Value.string)]) (o_loadRow (i := j) (u := sV ((lastN N (bk F kyk)).getD j ⟨#[]⟩)) (by kernel_rfl) (by omega) (by kernel_rfl) (get_map (by omega))) (by kernel_rfl) rfl (by kernel_rfl) rfl ?_
                refine Sq.same [2] (l := [lruR b3 (M : Int) (lastN M (bk F kyk)) (n2 + 1)]) (o_call (by kernel_rfl) Try.call18 ((tl_Has (most := (M : Int)) (ks := lastN M (bk F kyk)) (n := n2 + 1) ((lastN N (bk F kyk)).getD j ⟨#[]⟩)).re (vT (lastN_sub hNM (getD_mem' (by omega)))))) (by kernel_rfl) rfl (by kernel_rfl) rfl ?_
                refine Sq.vals [6] (rest := []) [bV false] (fun w => by kernel_rfl) ?_
                refine Sq.done ?_
                refine Ex'.next ?_
                refine Cd.condF (by kernel_rfl) ?_
                refine Cd.skip ?_
                refine Ex'.blockNormal ?_
                refine Ex'.next ?_
                refine Cd.region rfl ?_
                refine Sq.vals [0] (rest := [1, 2]) [iV (j : Int)] (fun w => by kernel_rfl) ?_
                refine Sq.v (r := iV ((j : Int) + 1)) (o_add (k := .i64) (a := (j : Int)) (b := 1) (c := (j : Int) + 1) (by kernel_rfl) (by kernel_rfl) (w64 rfl (by omega))) rfl (by kernel_rfl) ?_
                refine Sq.vals [2] (rest := []) [iV ((j : Int) + 1)] (fun w => by kernel_rfl) ?_
                refine Sq.done ?_
                refine Ex'.round (g := j) (j + 1) ?_ ?_ (subB_eq (l := [0, 1, 2, 7, 8, 9, 12, 13]) (by kernel_rfl)) (fun w hw => hw.pickB [0, 1, 2, 3, 4, 5] (by kernel_rfl) (by kernel_rfl) (by kernel_rfl))
                · (try dsimp only); exact (by omega : j + 1 ≤ (lastN N (bk F kyk)).length)
                · omega
              ·
                refine Cd.exit ?_
                refine Ex'.thenExit ?_
                refine Ex'.thenExit ?_
                refine Ex'.blockHit ?_
                refine Ex'.blockNormal ?_
                refine Ex'.next ?_
                refine Cd.region rfl ?_
                refine Sq.vals [0] (rest := [1, 2]) [iV (k : Int)] (fun w => by kernel_rfl) ?_
                refine Sq.v (r := iV ((k : Int) + 1)) (o_add (k := .i64) (a := (k : Int)) (b := 1) (c := (k : Int) + 1) (by kernel_rfl) (by kernel_rfl) (w64 rfl (by omega))) rfl (by kernel_rfl) ?_
                refine Sq.vals [2] (rest := []) [iV ((k : Int) + 1)] (fun w => by kernel_rfl) ?_
                refine Sq.done ?_
                refine Ex'.round (g := (k, F, n1, n2)) (k + 1, (bk F kyk), n1 + 1, n2 + 1) ?_ ?_ (subB_eq (l := [0, 1, 2, 7, 8, 9]) (by kernel_rfl)) (fun w hw => hw.pickB [0, 1, 2] (by kernel_rfl) (by kernel_rfl) (by kernel_rfl))
                · (try dsimp only); exact ⟨by omega, nodup_bk hF _, by omega, by omega⟩
                · omega
        ·
          refine Sq.vals [3, 4, 5, 6, 7, 8] (rest := [9, 10, 11, 12, 13, 14, 15, 16, 17, 18, 19, 20, 21, 22, 23, 24, 25, 26, 27, 28, 29, 30, 31, 32, 33, 34, 35, 36, 37, 38, 39, 40, 41]) [undef, undef, undef, bV false, bV false, pV b2 0] (fun w => by kernel_rfl) ?_
          refine Sq.same [1] (l := [lruR b2 (N : Int) (lastN N (bk F kyk)) (n1 + 1)]) (o_call (by kernel_rfl) Try.call17 (tl_Len (most := (N : Int)) (ks := lastN N (bk F kyk)) (n := n1 + 1))) (by kernel_rfl) rfl (by kernel_rfl) rfl ?_
          refine Sq.vals [10] (rest := [11, 12, 13, 14, 15, 16, 17, 18, 19, 20, 21, 22, 23, 24, 25, 26, 27, 28, 29, 30, 31, 32, 33, 34, 35, 36, 37, 38, 39, 40, 41]) [iV (N : Int)] (fun w => by kernel_rfl) ?_
          refine Sq.v (r := bV (decide (((lastN N (bk F kyk)).length : Int) > (N : Int)))) (pureV (by kernel_rfl) rfl fun w => by kernel_rfl) rfl (by kernel_rfl) ?_
          refine Sq.re 73 rfl (vF (by have := length_lastN N (bk F kyk); omega)) ?_
          refine Sq.vals [12, 13, 14] (rest := [15, 16, 17, 18, 19, 20, 21, 22, 23, 24, 25, 26, 27, 28, 29, 30, 31, 32, 33, 34, 35, 36, 37, 38, 39, 40, 41]) [bV false, bV false, pV b3 0] (fun w => by kernel_rfl) ?_
          refine Sq.same [2] (l := [lruR b3 (M : Int) (lastN M (bk F kyk)) (n2 + 1)]) (o_call (by kernel_rfl) Try.call17 (tl_Len (most := (M : Int)) (ks := lastN M (bk F kyk)) (n := n2 + 1))) (by kernel_rfl) rfl (by kernel_rfl) rfl ?_
          refine Sq.vals [16] (rest := [17, 18, 19, 20, 21, 22, 23, 24, 25, 26, 27, 28, 29, 30, 31, 32, 33, 34, 35, 36, 37, 38, 39, 40, 41]) [iV (M : Int)] (fun w => by kernel_rfl) ?_
          refine Sq.v (r := bV (decide (((lastN M (bk F kyk)).length : Int) > (M : Int)))) (pureV (by kernel_rfl) rfl fun w => by kernel_rfl) rfl (by kernel_rfl) ?_
          refine Sq.re 79 rfl (vF (by have := length_lastN M (bk F kyk); omega)) ?_
          refine Sq.vals [18, 19, 20, 21, 22] (rest := [23, 24, 25, 26, 27, 28, 29, 30, 31, 32, 33, 34, 35, 36, 37, 38, 39, 40, 41]) [bV false, bV false, iV (N : Int), bV (decide ((N : Int) > 0)), bV (decide ((N : Int) > 0))] (fun w => by kernel_rfl) ?_
          refine Sq.case 84 (p := (N : Int) > 0) rfl (fun h42 => ?_) (fun h42 => ?_)
          ·
            refine Sq.vals [23, 24, 25] (rest := [26, 27, 28, 29, 30, 31, 32, 33, 34, 35, 36, 37, 38, 39, 40, 41]) [pV b2 0, .slice (some ⟨g6, off7, none⟩) xs.length cap, iV (k : Int)] (fun w => by kernel_rfl) ?_
            refine Sq.v (r := pV g6 (off7 + k)) (o_idx (b := g6) (cap := cap) (e := 9) (off := off7) (n := xs.length) (kd := .i64) (q := (k : Int)) (i := k) (size := 1) (j := off7 + k) (by kernel_rfl) (by kernel_rfl) (by rfl) (by omega) Try.underlying22 (by kernel_rfl) (by omega)) rfl (by kernel_rfl) ?_
            refine Sq.same [0] (l := [oldR w0]) (o_loadOld (b := g6) (j := off7 + k) (u := sV kyk) (by kernel_rfl) (by kernel_rfl) (hrk 0 _ rfl)) (by kernel_rfl) rfl (by kernel_rfl) rfl ?_
            refine Sq.same [1] (l := [lruR b2 (N : Int) (lastN N (bk F kyk)) (n1 + 1)]) (o_call (by kernel_rfl) Try.call18 ((tl_Has (most := (N : Int)) (ks := lastN N (bk F kyk)) (n := n1 + 1) kyk).re (vT (mem_lastN_snoc (by omega) F kyk)))) (by kernel_rfl) rfl (by kernel_rfl) rfl ?_
            refine Sq.vals [29, 30, 31, 32, 33] (rest := [34, 35, 36, 37, 38, 39, 40, 41]) [bV false, bV false, bV false, bV false, pV b11 2] (fun w => by kernel_rfl) ?_
            refine Sq.same [3] (l := [blkR b11 [bV (lruHit (lastN N F) kyk), sV (lruVic (N : Int) (lastN N F) kyk), bV (lruOutB (N : Int) (lastN N F) kyk)] 27]) (o_load (i := 2) (v := bV (lruOutB (N : Int) (lastN N F) kyk)) (by kernel_rfl) (by kernel_rfl) (by kernel_rfl)) (by kernel_rfl) rfl (by kernel_rfl) rfl ?_
            refine Sq.vals [35] (rest := [36, 37, 38, 39, 40, 41]) [bV (lruOutB (N : Int) (lastN N F) kyk)] (fun w => by kernel_rfl) ?_
            refine Sq.caseB 97 (t := lruOutB (N : Int) (lastN N F) kyk) rfl (fun h43 => ?_) (fun h43 => ?_)
            ·
              refine Sq.vals [36, 37] (rest := [38, 39, 40, 41]) [pV b2 0, pV b11 1] (fun w => by kernel_rfl) ?_
              refine Sq.same [3] (l := [blkR b11 [bV (lruHit (lastN N F) kyk), sV (lruVic (N : Int) (lastN N F) kyk), bV (lruOutB (N : Int) (lastN N F) kyk)] 27]) (o_load (i := 1) (v := sV (lruVic (N : Int) (lastN N F) kyk)) (by kernel_rfl) (by kernel_rfl) (by kernel_rfl)) (by kernel_rfl) rfl (by kernel_rfl) rfl ?_
              refine Sq.same [1] (l := [lruR b2 (N : Int) (lastN N (bk F kyk)) (n1 + 1)]) (o_call (by kernel_rfl) Try.call18 ((tl_Has (most := (N : Int)) (ks := lastN N (bk F kyk)) (n := n1 + 1) (lruVic (N : Int) (lastN N F) kyk)).re (vF (stack_gone hF h43)))) (by kernel_rfl) rfl (by kernel_rfl) rfl ?_
              refine Sq.vals [40, 41] (rest := []) [bV false, bV false] (fun w => by kernel_rfl) ?_
              refine Sq.done ?_
              refine Ex'.next ?_
              refine Cd.condF (by kernel_rfl) ?_
              refine Cd.skip ?_
              refine Ex'.next ?_
              refine Cd.seq ?_
              refine Cd.region rfl ?_
              refine Sq.vals [0] (rest := [1, 2]) [pV b2 0] (fun w => by kernel_rfl) ?_
              refine Sq.ex [1] (l := [lruR b2 (N : Int) (lastN N (bk F kyk)) (n1 + 1)]) (o_call (by kernel_rfl) Try.call19 (tl_Keys (most := (N : Int)) (ks := lastN N (bk F kyk)) (n := n1 + 1) (by omega))) (by kernel_rfl) rfl (by kernel_rfl) (fun _ => Nat.le_of_ble_eq_true (by kernel_rfl)) ?_; rintro v44 _
              refine Sq.fact (i := 5) (R := rowR 9 1 v44 ((lastN N (bk F kyk)).length) ((lastN N (bk F kyk)).map Value.string)) (by kernel_rfl) row_slice ?_; rintro ⟨a45, c46, rfl, hc46, hc46'⟩
              have hc46'' : c46 ≤ 9223372036854775807 := hc46'
              refine Sq.vals [2] (rest := []) [.slice a45 ((lastN N (bk F kyk)).length) c46] (fun w => by kernel_rfl) ?_
              refine Sq.done ?_
              refine Ex'.next ?_
              refine Cd.seq ?_
              refine Cd.region rfl ?_
              refine Sq.vals [0] (rest := []) [iV 0] (fun w => by kernel_rfl) ?_
              refine Sq.done ?_
              refine Ex'.next ?_
              refine Cd.block ?_
              refine Cd.loop (ι := Nat) (fun j => j ≤ (lastN N (bk F kyk)).length) (fun j => (lastN N (bk F kyk)).length - j) (fun j => [(0, iV (N : Int)), (1, iV (M : Int)), (2, .slice (some ⟨g6, off7, none⟩) xs.length cap), (7, pV b2 0), (8, pV b3 0), (9, iV (k : Int)), (12, .slice a45 ((lastN N (bk F kyk)).length) c46), (13, iV (j : Int))]) (fun j => [oldR w0, lruR b2 (N : Int) (lastN N (bk F kyk)) (n1 + 1), lruR b3 (M : Int) (lastN M (bk F kyk)) (n2 + 1), blkR b11 [bV (lruHit (lastN N F) kyk), sV (lruVic (N : Int) (lastN N F) kyk), bV (lruOutB (N : Int) (lastN N F) kyk)] 27, blkR b12 [bV (lruHit (lastN M F) kyk), sV (lruVic (M : Int) (lastN M F) kyk), bV (lruOutB (M : Int) (lastN M F) kyk)] 27, rowR 9 1 (.slice a45 ((lastN N (bk F kyk)).length) c46) ((lastN N (bk F kyk)).length) ((lastN N (bk F kyk)).map Value.string)]) 0 (Nat.zero_le _) (subB_eq (l := [0, 1, 2, 7, 8, 9, 12, 13]) (by kernel_rfl)) (fun w hw => hw.pickB [0, 1, 2, 3, 4, 5] (by kernel_rfl) (by kernel_rfl) (by kernel_rfl)) ?_
              rintro j hL47
              try dsimp only at hL47 ⊢
              have hj := hL47
              refine Cd.seq ?_
              refine Cd.seq ?_
              refine Cd.region rfl ?_
              refine Sq.vals [0, 1, 2, 3] (rest := []) [iV (j : Int), .slice a45 ((lastN N (bk F kyk)).length) c46, iV ((lastN N (bk F kyk)).length : Int), bV (decide ((j : Int) < ((lastN N (bk F kyk)).length : Int)))] (fun w => by kernel_rfl) ?_
              refine Sq.done ?_
              refine Ex'.next ?_
              refine Cd.case (p := (j : Int) < ((lastN N (bk F kyk)).length : Int)) (by kernel_rfl) (fun h48 => ?_) (fun h48 => ?_)
              ·
                refine Cd.fact (i := 5) (R := rowR 9 1 (.slice a45 ((lastN N (bk F kyk)).length) c46) ((lastN N (bk F kyk)).length) ((lastN N (bk F kyk)).map Value.string)) (by kernel_rfl) (row_addr (by omega)) ?_; rintro ⟨b49, rfl⟩
                refine Cd.skip ?_
                refine Ex'.next ?_
                refine Cd.seq ?_
                refine Cd.block ?_
                refine Cd.seq ?_
                refine Cd.region rfl ?_
                refine Sq.vals [0, 1, 2] (rest := [3, 4, 5, 6]) [pV b3 0, .slice (some ⟨b49, 0, none⟩) ((lastN N (bk F kyk)).length) c46, iV (j : Int)] (fun w => by kernel_rfl) ?_
                refine Sq.v (r := pV b49 j) (o_idx (b := b49) (cap := c46) (e := 9) (off := 0) (n := (lastN N (bk F kyk)).length) (kd := .i64) (q := (j : Int)) (i := j) (size := 1) (j := j) (by kernel_rfl) (by kernel_rfl) (by rfl) (by omega) Try.underlying22 (by kernel_rfl) (by omega)) rfl (by kernel_rfl) ?_
                refine Sq.same [5] (l := [rowR 9 1 (.slice (some ⟨b49, 0, none⟩) ((lastN N (bk F kyk)).length) c46) ((lastN N (bk F kyk)).length) ((lastN N (bk F kyk)).map Value.string)]) (o_loadRow (i := j) (u := sV ((lastN N (bk F kyk)).getD j ⟨#[]⟩)) (by kernel_rfl) (by omega) (by kernel_rfl) (get_map (by omega))) (by kernel_rfl) rfl (by kernel_rfl) rfl ?_
                refine Sq.same [2] (l := [lruR b3 (M : Int) (lastN M (bk F kyk)) (n2 + 1)]) (o_call (by kernel_rfl) Try.call18 ((tl_Has (most := (M : Int)) (ks := lastN M (bk F kyk)) (n := n2 + 1) ((lastN N (bk F kyk)).getD j ⟨#[]⟩)).re (vT (lastN_sub hNM (getD_mem' (by omega)))))) (by kernel_rfl) rfl (by kernel_rfl) rfl ?_
                refine Sq.vals [6] (rest := []) [bV false] (fun w => by kernel_rfl) ?_
                refine Sq.done ?_
                refine Ex'.next ?_
                refine Cd.condF (by kernel_rfl) ?_
                refine Cd.skip ?_
                refine Ex'.blockNormal ?_
                refine Ex'.next ?_
                refine Cd.region rfl ?_
                refine Sq.vals [0] (rest := [1, 2]) [iV (j : Int)] (fun w => by kernel_rfl) ?_
                refine Sq.v (r := iV ((j : Int) + 1)) (o_add (k := .i64) (a := (j : Int)) (b := 1) (c := (j : Int) + 1) (by kernel_rfl) (by kernel_rfl) (w64 rfl (by omega))) rfl (by kernel_rfl) ?_
                refine Sq.vals [2] (rest := []) [iV ((j : Int) + 1)] (fun w => by kernel_rfl) ?_
                refine Sq.done ?_
                refine Ex'.round (g := j) (j + 1) ?_ ?_ (subB_eq (l := [0, 1, 2, 7, 8, 9, 12, 13]) (by kernel_rfl)) (fun w hw => hw.pickB [0, 1, 2, 3, 4, 5] (by kernel_rfl) (by kernel_rfl) (by kernel_rfl))
                · (try dsimp only); exact (by omega : j + 1 ≤ (lastN N (bk F kyk)).length)
                · omega
              ·
                refine Cd.exit ?_
                refine Ex'.thenExit ?_
                refine Ex'.thenExit ?_
                refine Ex'.blockHit ?_
                refine Ex'.blockNormal ?_
                refine Ex'.next ?_
                refine Cd.region rfl ?_
                refine Sq.vals [0] (rest := [1, 2]) [iV (k : Int)] (fun w => by kernel_rfl) ?_
                refine Sq.v (r := iV ((k : Int) + 1)) (o_add (k := .i64) (a := (k : Int)) (b := 1) (c := (k : Int) + 1) (by kernel_rfl) (by kernel_rfl) (w64 rfl (by omega))) rfl (by kernel_rfl) ?_
                refine Sq.vals [2] (rest := []) [iV ((k : Int) + 1)] (fun w => by kernel_rfl) ?_
                refine Sq.done ?_
                refine Ex'.round (g := (k, F, n1, n2)) (k + 1, (bk F kyk), n1 + 1, n2 + 1) ?_ ?_ (subB_eq (l := [0, 1, 2, 7, 8, 9]) (by kernel_rfl)) (fun w hw => hw.pickB [0, 1, 2] (by kernel_rfl) (by kernel_rfl) (by kernel_rfl))
                · (try dsimp only); exact ⟨by omega, nodup_bk hF _, by omega, by omega⟩
                · omega
            ·
              refine Sq.vals [36, 37, 38, 39, 40, 41] (rest := []) [undef, undef, undef, undef, bV false, bV false] (fun w => by kernel_rfl) ?_
              refine Sq.done ?_
              refine Ex'.next ?_
              refine Cd.condF (by kernel_rfl) ?_
              refine Cd.skip ?_
              refine Ex'.next ?_
              refine Cd.seq ?_
              refine Cd.region rfl ?_
              refine Sq.vals [0] (rest := [1, 2]) [pV b2 0] (fun w => by kernel_rfl) ?_
              refine Sq.ex [1] (l := [lruR b2 (N : Int) (lastN N (bk F kyk)) (n1 + 1)]) (o_call (by kernel_rfl) Try.call19 (tl_Keys (most := (N : Int)) (ks := lastN N (bk F kyk)) (n := n1 + 1) (by omega))) (by kernel_rfl) rfl (by kernel_rfl) (fun _ => Nat.le_of_ble_eq_true (by kernel_rfl)) ?_; rintro v50 _
              refine Sq.fact (i := 5) (R := rowR 9 1 v50 ((lastN N (bk F kyk)).length) ((lastN N (bk F kyk)).map Value.string)) (by kernel_rfl) row_slice ?_; rintro ⟨a51, c52, rfl, hc52, hc52'⟩
              have hc52'' : c52 ≤ 9223372036854775807 := hc52'
              refine Sq.vals [2] (rest := []) [.slice a51 ((lastN N (bk F kyk)).length) c52] (fun w => by kernel_rfl) ?_
              refine Sq.done ?_
              refine Ex'.next ?_
              refine Cd.seq ?_
              refine Cd.region rfl ?_
              refine Sq.vals [0] (rest := []) [iV 0] (fun w => by kernel_rfl) ?_
              refine Sq.done ?_
              refine Ex'.next ?_
              refine Cd.block ?_
              refine Cd.loop (ι := Nat) (fun j => j ≤ (lastN N (bk F kyk)).length) (fun j => (lastN N (bk F kyk)).length - j) (fun j => [(0, iV (N : Int)), (1, iV (M : Int)), (2, .slice (some ⟨g6, off7, none⟩) xs.length cap), (7, pV b2 0), (8, pV b3 0), (9, iV (k : Int)), (12, .slice a51 ((lastN N (bk F kyk)).length) c52), (13, iV (j : Int))]) (fun j => [oldR w0, lruR b2 (N : Int) (lastN N (bk F kyk)) (n1 + 1), lruR b3 (M : Int) (lastN M (bk F kyk)) (n2 + 1), blkR b11 [bV (lruHit (lastN N F) kyk), sV (lruVic (N : Int) (lastN N F) kyk), bV (lruOutB (N : Int) (lastN N F) kyk)] 27, blkR b12 [bV (lruHit (lastN M F) kyk), sV (lruVic (M : Int) (lastN M F) kyk), bV (lruOutB (M : Int) (lastN M F) kyk)] 27, rowR 9 1 (.slice a51 ((lastN N (bk F kyk)).length) c52) ((lastN N (bk F kyk)).length) ((lastN N (bk F kyk)).map Value.string)]) 0 (Nat.zero_le _) (subB_eq (l := [0, 1, 2, 7, 8, 9, 12, 13]) (by kernel_rfl)) (fun w hw => hw.pickB [0, 1, 2, 3, 4, 5] (by kernel_rfl) (by kernel_rfl) (by kernel_rfl)) ?_
              rintro j hL53
              try dsimp only at hL53 ⊢
              have hj := hL53
              refine Cd.seq ?_
              refine Cd.seq ?_
              refine Cd.region rfl ?_
              refine Sq.vals [0, 1, 2, 3] (rest := []) [iV (j : Int), .slice a51 ((lastN N (bk F kyk)).length) c52, iV ((lastN N (bk F kyk)).length : Int), bV (decide ((j : Int) < ((lastN N (bk F kyk)).length : Int)))] (fun w => by kernel_rfl) ?_
              refine Sq.done ?_
              refine Ex'.next ?_
              refine Cd.case (p := (j : Int) < ((lastN N (bk F kyk)).length : Int)) (by kernel_rfl) (fun h54 => ?_) (fun h54 => ?_)
              ·
                refine Cd.fact (i := 5) (R := rowR 9 1 (.slice a51 ((lastN N (bk F kyk)).length) c52) ((lastN N (bk F kyk)).length) ((lastN N (bk F kyk)).map Value.string)) (by kernel_rfl) (row_addr (by omega)) ?_; rintro ⟨b55, rfl⟩
                refine Cd.skip ?_
                refine Ex'.next ?_
                refine Cd.seq ?_
                refine Cd.block ?_
                refine Cd.seq ?_
                refine Cd.region rfl ?_
                refine Sq.vals [0, 1, 2] (rest := [3, 4, 5, 6]) [pV b3 0, .slice (some ⟨b55, 0, none⟩) ((lastN N (bk F kyk)).length) c52, iV (j : Int)] (fun w => by kernel_rfl) ?_
                refine Sq.v (r := pV b55 j) (o_idx (b := b55) (cap := c52) (e := 9) (off := 0) (n := (lastN N (bk F kyk)).length) (kd := .i64) (q := (j : Int)) (i := j) (size := 1) (j := j) (by kernel_rfl) (by kernel_rfl) (by rfl) (by omega) Try.underlying22 (by kernel_rfl) (by omega)) rfl (by kernel_rfl) ?_
                refine Sq.same [5] (l := [rowR 9 1 (.slice (some ⟨b55, 0, none⟩) ((lastN N (bk F kyk)).length) c52) ((lastN N (bk F kyk)).length) ((lastN N (bk F kyk)).map Value.string)]) (o_loadRow (i := j) (u := sV ((lastN N (bk F kyk)).getD j ⟨#[]⟩)) (by kernel_rfl) (by omega) (by kernel_rfl) (get_map (by omega))) (by kernel_rfl) rfl (by kernel_rfl) rfl ?_
                refine Sq.same [2] (l := [lruR b3 (M : Int) (lastN M (bk F kyk)) (n2 + 1)]) (o_call (by kernel_rfl) Try.call18 ((tl_Has (most := (M : Int)) (ks := lastN M (bk F kyk)) (n := n2 + 1) ((lastN N (bk F kyk)).getD j ⟨#[]⟩)).re (vT (lastN_sub hNM (getD_mem' (by omega)))))) (by kernel_rfl) rfl (by kernel_rfl) rfl ?_
                refine Sq.vals [6] (rest := []) [bV false] (fun w => by kernel_rfl) ?_
                refine Sq.done ?_
                refine Ex'.next ?_
                refine Cd.condF (by kernel_rfl) ?_
                refine Cd.skip ?_
                refine Ex'.blockNormal ?_
                refine Ex'.next ?_
                refine Cd.region rfl ?_
                refine Sq.vals [0] (rest := [1, 2]) [iV (j : Int)] (fun w => by kernel_rfl) ?_
                refine Sq.v (r := iV ((j : Int) + 1)) (o_add (k := .i64) (a := (j : Int)) (b := 1) (c := (j : Int) + 1) (by kernel_rfl) (by kernel_rfl) (w64 rfl (by omega))) rfl (by kernel_rfl) ?_
                refine Sq.vals [2] (rest := []) [iV ((j : Int) + 1)] (fun w => by kernel_rfl) ?_
                refine Sq.done ?_
                refine Ex'.round (g := j) (j + 1) ?_ ?_ (subB_eq (l := [0, 1, 2, 7, 8, 9, 12, 13]) (by kernel_rfl)) (fun w hw => hw.pickB [0, 1, 2, 3, 4, 5] (by kernel_rfl) (by kernel_rfl) (by kernel_rfl))
                · (try dsimp only); exact (by omega : j + 1 ≤ (lastN N (bk F kyk)).length)
                · omega
              ·
                refine Cd.exit ?_
                refine Ex'.thenExit ?_
                refine Ex'.thenExit ?_
                refine Ex'.blockHit ?_
                refine Ex'.blockNormal ?_
                refine Ex'.next ?_
                refine Cd.region rfl ?_
                refine Sq.vals [0] (rest := [1, 2]) [iV (k : Int)] (fun w => by kernel_rfl) ?_
                refine Sq.v (r := iV ((k : Int) + 1)) (o_add (k := .i64) (a := (k : Int)) (b := 1) (c := (k : Int) + 1) (by kernel_rfl) (by kernel_rfl) (w64 rfl (by omega))) rfl (by kernel_rfl) ?_
                refine Sq.vals [2] (rest := []) [iV ((k : Int) + 1)] (fun w => by kernel_rfl) ?_
                refine Sq.done ?_
                refine Ex'.round (g := (k, F, n1, n2)) (k + 1, (bk F kyk), n1 + 1, n2 + 1) ?_ ?_ (subB_eq (l := [0, 1, 2, 7, 8, 9]) (by kernel_rfl)) (fun w hw => hw.pickB [0, 1, 2] (by kernel_rfl) (by kernel_rfl) (by kernel_rfl))
                · (try dsimp only); exact ⟨by omega, nodup_bk hF _, by omega, by omega⟩
                · omega
          ·
            refine Sq.vals [23, 24, 25, 26, 27, 28, 29, 30, 31, 32, 33] (rest := [34, 35, 36, 37, 38, 39, 40, 41]) [undef, undef, undef, undef, undef, undef, undef, bV false, bV false, bV false, pV b11 2] (fun w => by kernel_rfl) ?_
            refine Sq.same [3] (l := [blkR b11 [bV (lruHit (lastN N F) kyk), sV (lruVic (N : Int) (lastN N F) kyk), bV (lruOutB (N : Int) (lastN N F) kyk)] 27]) (o_load (i := 2) (v := bV (lruOutB (N : Int) (lastN N F) kyk)) (by kernel_rfl) (by kernel_rfl) (by kernel_rfl)) (by kernel_rfl) rfl (by kernel_rfl) rfl ?_
            refine Sq.vals [35] (rest := [36, 37, 38, 39, 40, 41]) [bV (lruOutB (N : Int) (lastN N F) kyk)] (fun w => by kernel_rfl) ?_
            refine Sq.caseB 97 (t := lruOutB (N : Int) (lastN N F) kyk) rfl (fun h56 => ?_) (fun h56 => ?_)
            ·
              refine Sq.vals [36, 37] (rest := [38, 39, 40, 41]) [pV b2 0, pV b11 1] (fun w => by kernel_rfl) ?_
              refine Sq.same [3] (l := [blkR b11 [bV (lruHit (lastN N F) kyk), sV (lruVic (N : Int) (lastN N F) kyk), bV (lruOutB (N : Int) (lastN N F) kyk)] 27]) (o_load (i := 1) (v := sV (lruVic (N : Int) (lastN N F) kyk)) (by kernel_rfl) (by kernel_rfl) (by kernel_rfl)) (by kernel_rfl) rfl (by kernel_rfl) rfl ?_
              refine Sq.same [1] (l := [lruR b2 (N : Int) (lastN N (bk F kyk)) (n1 + 1)]) (o_call (by kernel_rfl) Try.call18 ((tl_Has (most := (N : Int)) (ks := lastN N (bk F kyk)) (n := n1 + 1) (lruVic (N : Int) (lastN N F) kyk)).re (vF (stack_gone hF h56)))) (by kernel_rfl) rfl (by kernel_rfl) rfl ?_
              refine Sq.vals [40, 41] (rest := []) [bV false, bV false] (fun w => by kernel_rfl) ?_
              refine Sq.done ?_
              refine Ex'.next ?_
              refine Cd.condF (by kernel_rfl) ?_
              refine Cd.skip ?_
              refine Ex'.next ?_
              refine Cd.seq ?_
              refine Cd.region rfl ?_
              refine Sq.vals [0] (rest := [1, 2]) [pV b2 0] (fun w => by kernel_rfl) ?_
              refine Sq.ex [1] (l := [lruR b2 (N : Int) (lastN N (bk F kyk)) (n1 + 1)]) (o_call (by kernel_rfl) Try.call19 (tl_Keys (most := (N : Int)) (ks := lastN N (bk F kyk)) (n := n1 + 1) (by omega))) (by kernel_rfl) rfl (by kernel_rfl) (fun _ => Nat.le_of_ble_eq_true (by kernel_rfl)) ?_; rintro v57 _
              refine Sq.fact (i := 5) (R := rowR 9 1 v57 ((lastN N (bk F kyk)).length) ((lastN N (bk F kyk)).map Value.string)) (by kernel_rfl) row_slice ?_; rintro ⟨a58, c59, rfl, hc59, hc59'⟩
              have hc59'' : c59 ≤ 9223372036854775807 := hc59'
              refine Sq.vals [2] (rest := []) [.slice a58 ((lastN N (bk F kyk)).length) c59] (fun w => by kernel_rfl) ?_
              refine Sq.done ?_
              refine Ex'.next ?_
              refine Cd.seq ?_
              refine Cd.region rfl ?_
              refine Sq.vals [0] (rest := []) [iV 0] (fun w => by kernel_rfl) ?_
              refine Sq.done ?_
              refine Ex'.next ?_
              refine Cd.block ?_
              refine Cd.loop (ι := Nat) (fun j => j ≤ (lastN N (bk F kyk)).length) (fun j => (lastN N (bk F kyk)).length - j) (fun j => [(0, iV (N : Int)), (1, iV (M : Int)), (2, .slice (some ⟨g6, off7, none⟩) xs.length cap), (7, pV b2 0), (8, pV b3 0), (9, iV (k : Int)), (12, .slice a58 ((lastN N (bk F kyk)).length) c59), (13, iV (j : Int))]) (fun j => [oldR w0, lruR b2 (N : Int) (lastN N (bk F kyk)) (n1 + 1), lruR b3 (M : Int) (lastN M (bk F kyk)) (n2 + 1), blkR b11 [bV (lruHit (lastN N F) kyk), sV (lruVic (N : Int) (lastN N F) kyk), bV (lruOutB (N : Int) (lastN N F) kyk)] 27, blkR b12 [bV (lruHit (lastN M F) kyk), sV (lruVic (M : Int) (lastN M F) kyk), bV (lruOutB (M : Int) (lastN M F) kyk)] 27, rowR 9 1 (.slice a58 ((lastN N (bk F kyk)).length) c59) ((lastN N (bk F kyk)).length) ((lastN N (bk F kyk)).map Value.string)]) 0 (Nat.zero_le _) (subB_eq (l := [0, 1, 2, 7, 8, 9, 12, 13]) (by kernel_rfl)) (fun w hw => hw.pickB [0, 1, 2, 3, 4, 5] (by kernel_rfl) (by kernel_rfl) (by kernel_rfl)) ?_
              rintro j hL60
              try dsimp only at hL60 ⊢
              have hj := hL60
              refine Cd.seq ?_
              refine Cd.seq ?_
              refine Cd.region rfl ?_
              refine Sq.vals [0, 1, 2, 3] (rest := []) [iV (j : Int), .slice a58 ((lastN N (bk F kyk)).length) c59, iV ((lastN N (bk F kyk)).length : Int), bV (decide ((j : Int) < ((lastN N (bk F kyk)).length : Int)))] (fun w => by kernel_rfl) ?_
              refine Sq.done ?_
              refine Ex'.next ?_
              refine Cd.case (p := (j : Int) < ((lastN N (bk F kyk)).length : Int)) (by kernel_rfl) (fun h61 => ?_) (fun h61 => ?_)
              ·
                refine Cd.fact (i := 5) (R := rowR 9 1 (.slice a58 ((lastN N (bk F kyk)).length) c59) ((lastN N (bk F kyk)).length) ((lastN N (bk F kyk)).map Value.string)) (by kernel_rfl) (row_addr (by omega)) ?_; rintro ⟨b62, rfl⟩
                refine Cd.skip ?_
                refine Ex'.next ?_
                refine Cd.seq ?_
                refine Cd.block ?_
                refine Cd.seq ?_
                refine Cd.region rfl ?_
                refine Sq.vals [0, 1, 2] (rest := [3, 4, 5, 6]) [pV b3 0, .slice (some ⟨b62, 0, none⟩) ((lastN N (bk F kyk)).length) c59, iV (j : Int)] (fun w => by kernel_rfl) ?_
                refine Sq.v (r := pV b62 j) (o_idx (b := b62) (cap := c59) (e := 9) (off := 0) (n := (lastN N (bk F kyk)).length) (kd := .i64) (q := (j : Int)) (i := j) (size := 1) (j := j) (by kernel_rfl) (by kernel_rfl) (by rfl) (by omega) Try.underlying22 (by kernel_rfl) (by omega)) rfl (by kernel_rfl) ?_
                refine Sq.same [5] (l := [rowR 9 1 (.slice (some ⟨b62, 0, none⟩) ((lastN N (bk F kyk)).length) c59) ((lastN N (bk F kyk)).length) ((lastN N (bk F kyk)).map Value.string)]) (o_loadRow (i := j) (u := sV ((lastN N (bk F kyk)).getD j ⟨#[]⟩)) (by kernel_rfl) (by omega) (by kernel_rfl) (get_map (by omega))) (by kernel_rfl) rfl (by kernel_rfl) rfl ?_
                refine Sq.same [2] (l := [lruR b3 (M : Int) (lastN M (bk F kyk)) (n2 + 1)]) (o_call (by kernel_rfl) Try.call18 ((tl_Has (most := (M : Int)) (ks := lastN M (bk F kyk)) (n := n2 + 1) ((lastN N (bk F kyk)).getD j ⟨#[]⟩)).re (vT (lastN_sub hNM (getD_mem' (by omega)))))) (by kernel_rfl) rfl (by kernel_rfl) rfl ?_
                refine Sq.vals [6] (rest := []) [bV false] (fun w => by kernel_rfl) ?_
                refine Sq.done ?_
                refine Ex'.next ?_
                refine Cd.condF (by kernel_rfl) ?_
                refine Cd.skip ?_
                refine Ex'.blockNormal ?_
                refine Ex'.next ?_
                refine Cd.region rfl ?_
                refine Sq.vals [0] (rest := [1, 2]) [iV (j : Int)] (fun w => by kernel_rfl) ?_
                refine Sq.v (r := iV ((j : Int) + 1)) (o_add (k := .i64) (a := (j : Int)) (b := 1) (c := (j : Int) + 1) (by kernel_rfl) (by kernel_rfl) (w64 rfl (by omega))) rfl (by kernel_rfl) ?_
                refine Sq.vals [2] (rest := []) [iV ((j : Int) + 1)] (fun w => by kernel_rfl) ?_
                refine Sq.done ?_
                refine Ex'.round (g := j) (j + 1) ?_ ?_ (subB_eq (l := [0, 1, 2, 7, 8, 9, 12, 13]) (by kernel_rfl)) (fun w hw => hw.pickB [0, 1, 2, 3, 4, 5] (by kernel_rfl) (by kernel_rfl) (by kernel_rfl))
                · (try dsimp only); exact (by omega : j + 1 ≤ (lastN N (bk F kyk)).length)
                · omega
              ·
                refine Cd.exit ?_
                refine Ex'.thenExit ?_
                refine Ex'.thenExit ?_
                refine Ex'.blockHit ?_
                refine Ex'.blockNormal ?_
                refine Ex'.next ?_
                refine Cd.region rfl ?_
                refine Sq.vals [0] (rest := [1, 2]) [iV (k : Int)] (fun w => by kernel_rfl) ?_
                refine Sq.v (r := iV ((k : Int) + 1)) (o_add (k := .i64) (a := (k : Int)) (b := 1) (c := (k : Int) + 1) (by kernel_rfl) (by kernel_rfl) (w64 rfl (by omega))) rfl (by kernel_rfl) ?_
                refine Sq.vals [2] (rest := []) [iV ((k : Int) + 1)] (fun w => by kernel_rfl) ?_
                refine Sq.done ?_
                refine Ex'.round (g := (k, F, n1, n2)) (k + 1, (bk F kyk), n1 + 1, n2 + 1) ?_ ?_ (subB_eq (l := [0, 1, 2, 7, 8, 9]) (by kernel_rfl)) (fun w hw => hw.pickB [0, 1, 2] (by kernel_rfl) (by kernel_rfl) (by kernel_rfl))
                · (try dsimp only); exact ⟨by omega, nodup_bk hF _, by omega, by omega⟩
                · omega
            ·
              refine Sq.vals [36, 37, 38, 39, 40, 41] (rest := []) [undef, undef, undef, undef, bV false, bV false] (fun w => by kernel_rfl) ?_
              refine Sq.done ?_
              refine Ex'.next ?_
              refine Cd.condF (by kernel_rfl) ?_
              refine Cd.skip ?_
              refine Ex'.next ?_
              refine Cd.seq ?_
              refine Cd.region rfl ?_
              refine Sq.vals [0] (rest := [1, 2]) [pV b2 0] (fun w => by kernel_rfl) ?_
              refine Sq.ex [1] (l := [lruR b2 (N : Int) (lastN N (bk F kyk)) (n1 + 1)]) (o_call (by kernel_rfl) Try.call19 (tl_Keys (most := (N : Int)) (ks := lastN N (bk F kyk)) (n := n1 + 1) (by omega))) (by kernel_rfl) rfl (by kernel_rfl) (fun _ => Nat.le_of_ble_eq_true (by kernel_rfl)) ?_; rintro v63 _
              refine Sq.fact (i := 5) (R := rowR 9 1 v63 ((lastN N (bk F kyk)).length) ((lastN N (bk F kyk)).map Value.string)) (by kernel_rfl) row_slice ?_; rintro ⟨a64, c65, rfl, hc65, hc65'⟩
              have hc65'' : c65 ≤ 9223372036854775807 := hc65'
              refine Sq.vals [2] (rest := []) [.slice a64 ((lastN N (bk F kyk)).length) c65] (fun w => by kernel_rfl) ?_
              refine Sq.done ?_
              refine Ex'.next ?_
              refine Cd.seq ?_
              refine Cd.region rfl ?_
              refine Sq.vals [0] (rest := []) [iV 0] (fun w => by kernel_rfl) ?_
              refine Sq.done ?_
              refine Ex'.next ?_
              refine Cd.block ?_
              refine Cd.loop (ι := Nat) (fun j => j ≤ (lastN N (bk F kyk)).length) (fun j => (lastN N (bk F kyk)).length - j) (fun j => [(0, iV (N : Int)), (1, iV (M : Int)), (2, .slice (some ⟨g6, off7, none⟩) xs.length cap), (7, pV b2 0), (8, pV b3 0), (9, iV (k : Int)), (12, .slice a64 ((lastN N (bk F kyk)).length) c65), (13, iV (j : Int))]) (fun j => [oldR w0, lruR b2 (N : Int) (lastN N (bk F kyk)) (n1 + 1), lruR b3 (M : Int) (lastN M (bk F kyk)) (n2 + 1), blkR b11 [bV (lruHit (lastN N F) kyk), sV (lruVic (N : Int) (lastN N F) kyk), bV (lruOutB (N : Int) (lastN N F) kyk)] 27, blkR b12 [bV (lruHit (lastN M F) kyk), sV (lruVic (M : Int) (lastN M F) kyk), bV (lruOutB (M : Int) (lastN M F) kyk)] 27, rowR 9 1 (.slice a64 ((lastN N (bk F kyk)).length) c65) ((lastN N (bk F kyk)).length) ((lastN N (bk F kyk)).map Value.string)]) 0 (Nat.zero_le _) (subB_eq (l := [0, 1, 2, 7, 8, 9, 12, 13]) (by kernel_rfl)) (fun w hw => hw.pickB [0, 1, 2, 3, 4, 5] (by kernel_rfl) (by kernel_rfl) (by kernel_rfl)) ?_
              rintro j hL66
              try dsimp only at hL66 ⊢
              have hj := hL66
              refine Cd.seq ?_
              refine Cd.seq ?_
              refine Cd.region rfl ?_
              refine Sq.vals [0, 1, 2, 3] (rest := []) [iV (j : Int), .slice a64 ((lastN N (bk F kyk)).length) c65, iV ((lastN N (bk F kyk)).length : Int), bV (decide ((j : Int) < ((lastN N (bk F kyk)).length : Int)))] (fun w => by kernel_rfl) ?_
              refine Sq.done ?_
              refine Ex'.next ?_
              refine Cd.case (p := (j : Int) < ((lastN N (bk F kyk)).length : Int)) (by kernel_rfl) (fun h67 => ?_) (fun h67 => ?_)
              ·
                refine Cd.fact (i := 5) (R := rowR 9 1 (.slice a64 ((lastN N (bk F kyk)).length) c65) ((lastN N (bk F kyk)).length) ((lastN N (bk F kyk)).map Value.string)) (by kernel_rfl) (row_addr (by omega)) ?_; rintro ⟨b68, rfl⟩
                refine Cd.skip ?_
                refine Ex'.next ?_
                refine Cd.seq ?_
                refine Cd.block ?_
                refine Cd.seq ?_
                refine Cd.region rfl ?_
                refine Sq.vals [0, 1, 2] (rest := [3, 4, 5, 6]) [pV b3 0, .slice (some ⟨b68, 0, none⟩) ((lastN N (bk F kyk)).length) c65, iV (j : Int)] (fun w => by kernel_rfl) ?_
                refine Sq.v (r := pV b68 j) (o_idx (b := b68) (cap := c65) (e := 9) (off := 0) (n := (lastN N (bk F kyk)).length) (kd := .i64) (q := (j : Int)) (i := j) (size := 1) (j := j) (by kernel_rfl) (by kernel_rfl) (by rfl) (by omega) Try.underlying22 (by kernel_rfl) (by omega)) rfl (by kernel_rfl) ?_
                refine Sq.same [5] (l := [rowR 9 1 (.slice (some ⟨b68, 0, none⟩) ((lastN N (bk F kyk)).length) c65) ((lastN N (bk F kyk)).length) ((lastN N (bk F kyk)).map Value.string)]) (o_loadRow (i := j) (u := sV ((lastN N (bk F kyk)).getD j ⟨#[]⟩)) (by kernel_rfl) (by omega) (by kernel_rfl) (get_map (by omega))) (by kernel_rfl) rfl (by kernel_rfl) rfl ?_
                refine Sq.same [2] (l := [lruR b3 (M : Int) (lastN M (bk F kyk)) (n2 + 1)]) (o_call (by kernel_rfl) Try.call18 ((tl_Has (most := (M : Int)) (ks := lastN M (bk F kyk)) (n := n2 + 1) ((lastN N (bk F kyk)).getD j ⟨#[]⟩)).re (vT (lastN_sub hNM (getD_mem' (by omega)))))) (by kernel_rfl) rfl (by kernel_rfl) rfl ?_
                refine Sq.vals [6] (rest := []) [bV false] (fun w => by kernel_rfl) ?_
                refine Sq.done ?_
                refine Ex'.next ?_
                refine Cd.condF (by kernel_rfl) ?_
                refine Cd.skip ?_
                refine Ex'.blockNormal ?_
                refine Ex'.next ?_
                refine Cd.region rfl ?_
                refine Sq.vals [0] (rest := [1, 2]) [iV (j : Int)] (fun w => by kernel_rfl) ?_
                refine Sq.v (r := iV ((j : Int) + 1)) (o_add (k := .i64) (a := (j : Int)) (b := 1) (c := (j : Int) + 1) (by kernel_rfl) (by kernel_rfl) (w64 rfl (by omega))) rfl (by kernel_rfl) ?_
                refine Sq.vals [2] (rest := []) [iV ((j : Int) + 1)] (fun w => by kernel_rfl) ?_
                refine Sq.done ?_
                refine Ex'.round (g := j) (j + 1) ?_ ?_ (subB_eq (l := [0, 1, 2, 7, 8, 9, 12, 13]) (by kernel_rfl)) (fun w hw => hw.pickB [0, 1, 2, 3, 4, 5] (by kernel_rfl) (by kernel_rfl) (by kernel_rfl))
                · (try dsimp only); exact (by omega : j + 1 ≤ (lastN N (bk F kyk)).length)
                · omega
              ·
                refine Cd.exit ?_
                refine Ex'.thenExit ?_
                refine Ex'.thenExit ?_
                refine Ex'.blockHit ?_
                refine Ex'.blockNormal ?_
                refine Ex'.next ?_
                refine Cd.region rfl ?_
                refine Sq.vals [0] (rest := [1, 2]) [iV (k : Int)] (fun w => by kernel_rfl) ?_
                refine Sq.v (r := iV ((k : Int) + 1)) (o_add (k := .i64) (a := (k : Int)) (b := 1) (c := (k : Int) + 1) (by kernel_rfl) (by kernel_rfl) (w64 rfl (by omega))) rfl (by kernel_rfl) ?_
                refine Sq.vals [2] (rest := []) [iV ((k : Int) + 1)] (fun w => by kernel_rfl) ?_
                refine Sq.done ?_
                refine Ex'.round (g := (k, F, n1, n2)) (k + 1, (bk F kyk), n1 + 1, n2 + 1) ?_ ?_ (subB_eq (l := [0, 1, 2, 7, 8, 9]) (by kernel_rfl)) (fun w hw => hw.pickB [0, 1, 2] (by kernel_rfl) (by kernel_rfl) (by kernel_rfl))
                · (try dsimp only); exact ⟨by omega, nodup_bk hF _, by omega, by omega⟩
                · omega
    ·
      refine Cd.exit ?_
      refine Ex'.thenExit ?_
      refine Ex'.thenExit ?_
      refine Ex'.blockHit ?_
      refine Ex'.next ?_
      refine Cd.seq ?_
      refine Cd.region rfl ?_
      refine Sq.vals [0] (rest := []) [bV true] (fun w => by kernel_rfl) ?_
      refine Sq.done ?_
      refine Ex'.next ?_
      refine Cd.ret ?_
      refine Ex'.ret Try.results3 (RVs.tmp (v := bV true) (by kernel_rfl) (RVs.nil)) (fun w hw => ?_)
      exact ⟨_, ⟨rfl, by kernel_rfl⟩, hw⟩

theorem lruStack_walk (n m : Int) (v0 : Value) (ks : List ByteArray) (w : World) (hn : (Lit.int .i64 n).wf = true) (hm : (Lit.int .i64 m).wf = true) (h : Strs w (fun k => k < w.heap.size) v0 ks) (hz : ∀ k ∈ ks, k.size ≤ maxLen) :
    Calls Try.prog 3 #[.int .i64 n, .int .i64 m, v0] w fun e w' => e = .returned (.bool true) ∧ Below w.heap.size w w' := by
  obtain ⟨a, cap, rfl, hl⟩ := KeysIn.shape ⟨h, hz⟩
  have hn' := range64 hn
  have hm' := range64 hm
  by_cases h0 : n < 0
  · exact law_of (lruStack_neg hl ⟨h, hz⟩ h0)
  by_cases h1 : m < n
  · exact law_of (lruStack_less hl ⟨h, hz⟩ h0 h1)
  obtain ⟨N, rfl⟩ : ∃ N : Nat, n = N := ⟨n.toNat, by omega⟩
  obtain ⟨M, rfl⟩ : ∃ M : Nat, m = M := ⟨m.toNat, by omega⟩
  exact law_of (lruStack_pos hl ⟨h, hz⟩ (by omega) (by omega))

end Go.Proofs.Ytjijjfdkghcjkaa
