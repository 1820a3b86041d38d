/- ErrsIs, ErrsT, ErrsW, RefS, PolF, PolLaw -/
import Derived.Test.YtholinnmjoelkaaGreatDoorM27
set_option linter.unusedVariables false
set_option linter.unusedSimpArgs false
namespace Go.Proofs.YtholinnmjoelkaaGreatDoor
open Go.RowKit Go.Extern.Stop Go.Stop Go.Extern
theorem Tryz.isTypeOf (v : Value) (w : World) : (ReflectliteType.typeOf #[.iface 83 v]).run Tryz.prog w = .ok (.iface 209 (.agg #[.pointer (some ⟨1, 83, none⟩)])) w := by kernel_rfl
theorem Tryz.isComparable (w : World) : ((ReflectliteType.method fun t => do Rtype.noPackHeld "Comparable" t; (fun a => Value.bool a.comparable) <$> typeInfo t) #[.agg #[.pointer (some ⟨1, 83, none⟩)]]).run Tryz.prog w = .ok (.bool true) w := by kernel_rfl
theorem Tryz.isMethodComparable (v : Value) (w : World) : (Go.method 401 209 v "Comparable").run Tryz.prog w = .ok (238, v) w := by kernel_rfl
theorem Tryz.noIsF (v : Value) (xT : TypeId) (w : World) : (Instr.typeAssert (.iface 84 v) xT 221 true).run Tryz.prog w = .ok (.tuple #[.nilIface, .bool false]) w := run_typeAssert_lacksB Tryz.underlying221 (by kernel_rfl) (by kernel_rfl) v xT w
theorem Tryz.hasUnwrapF (v : Value) (xT : TypeId) (w : World) : (Instr.typeAssert (.iface 84 v) xT 216 true).run Tryz.prog w = .ok (.tuple #[.iface 84 v, .bool true]) w := run_typeAssert_hasB Tryz.underlying216 (by kernel_rfl) v xT w
theorem Tryz.methodUnwrap (v : Value) (w : World) : (Go.method 401 84 v "Unwrap").run Tryz.prog w = .ok (231, v) w := by kernel_rfl
theorem Tryz.noIsE (v : Value) (xT : TypeId) (w : World) : (Instr.typeAssert (.iface 83 v) xT 221 true).run Tryz.prog w = .ok (.tuple #[.nilIface, .bool false]) w := run_typeAssert_lacksB Tryz.underlying221 (by kernel_rfl) (by kernel_rfl) v xT w
theorem Tryz.noUnwrapE (v : Value) (xT : TypeId) (w : World) : (Instr.typeAssert (.iface 83 v) xT 216 true).run Tryz.prog w = .ok (.tuple #[.nilIface, .bool false]) w := run_typeAssert_lacksB Tryz.underlying216 (by kernel_rfl) (by kernel_rfl) v xT w
theorem Tryz.noUnwrapsE (v : Value) (xT : TypeId) (w : World) : (Instr.typeAssert (.iface 83 v) xT 218 true).run Tryz.prog w = .ok (.tuple #[.nilIface, .bool false]) w := run_typeAssert_lacksB Tryz.underlying218 (by kernel_rfl) (by kernel_rfl) v xT w
section
variable {P : Program} (w : World)
theorem run_equalIn_iface_int (d : Nat) {ti tn : TypeId} {ms : Array (String × TypeId)} {i : TypeInfo} {k : IntKind} (a b : Int)
    (hi : P.underlying ti = some (.interface ms)) (hn : P.underlying tn = some (.int k)) (hinfo : P.info? tn = some i) (hcomp : i.comparable = true) :
    (Op.equalIn (d + 2) ti (.iface tn (.int k a)) (.iface tn (.int k b))).run P w = .ok (a == b) w := by
  simp [Op.equalIn, run_underlying hi, run_underlying hn, typeInfo, hinfo, hcomp]
theorem run_eql_iface_int {ti tn : TypeId} {ms : Array (String × TypeId)} {k : IntKind} (a b : Int)
    (hi : P.underlying ti = some (.interface ms)) (hn : P.underlying tn = some (.int k)) (hc : (P.info? tn).map (·.comparable) = some true) :
    (binOp .eql ti (.iface tn (.int k a)) (.iface tn (.int k b))).run P w = .ok (.bool (a == b)) w := by
  obtain ⟨i, hinfo, hcomp⟩ := Option.map_eq_some_iff.1 hc
  simp only [binOp]
  simp [Op.equal, Op.maxDepth, run_equalIn_iface_int w 9998 a b hi hn hinfo hcomp]
end
set_option maxRecDepth 100000 in
set_option maxHeartbeats 4000000 in
theorem is_fault (pb : Nat) (c d : Int) (w : World) (h1 : w.cell? ⟨pb, 2, none⟩ = some (.iface 83 (.int .i64 c))) :
    Calls Tryz.prog 43 #[.iface 84 (.pointer (some ⟨pb, 0, none⟩)), .iface 83 (.int .i64 d)] w fun e w' => e = .returned (.bool (decide (c = d))) ∧ w' = w := by
  have hT := @run_callFunc_extern Tryz.prog 124 _ ReflectliteType.typeOf Tryz.func124 (by kernel_rfl) (by kernel_rfl) (by kernel_rfl) (by kernel_rfl)
  have hC := @run_callFunc_extern Tryz.prog 238 _ (ReflectliteType.method fun t => do Rtype.noPackHeld "Comparable" t; pure (.bool (← typeInfo t).comparable)) Tryz.func238 (by kernel_rfl) (by kernel_rfl) (by kernel_rfl) (by kernel_rfl)
  have a1 := Tryz.isTypeOf
  have a2 := Tryz.isComparable
  have a3 := Tryz.isMethodComparable
  have a4 := Tryz.noIsF
  have a5 := Tryz.hasUnwrapF
  have a6 := Tryz.methodUnwrap
  have a7 := Tryz.noIsE
  have a8 := Tryz.noUnwrapE
  have a9 := Tryz.noUnwrapsE
  have q1 := fun vx vy w => run_eql_iface_types (P := Tryz.prog) 84 83 vx vy Tryz.underlying24 (by decide) w
  have q2 := fun w => run_eql_iface_int (P := Tryz.prog) (tn := 83) w c d Tryz.underlying24 Tryz.underlying83 (by kernel_rfl)
  go_enter Tryz.func43, Tryz.ntmps43
  go_wp2
  refine wp_loop_rounds 2 ?_
  rw [rounds_succ]
  go_wp2
  rw [rounds_succ]
  by_cases hcd : c = d
  · subst hcd
    have q3 : (c == c) = true := by simp
    simp only [q3] at q2
    go_wp2
    all_goals (go_ret; simp_all)
  · have q3 : (c == d) = false := by simpa using hcd
    simp only [q3] at q2
    go_wp2
    all_goals (go_ret; simp_all)
end Go.Proofs.YtholinnmjoelkaaGreatDoor
namespace Go.Proofs.YtholinnmjoelkaaGreatDoor
open Go.RowKit Go.MapKept
abbrev errT (w : World) : Prop := w.cell? ⟨0, 0, none⟩ = some (.iface 209 (.agg #[.pointer (some ⟨1, 24, none⟩)]))
theorem tri_as {w0 : World} (hw0 : errT w0) {e t : Nat} : Tri Tryz.prog 42 #[.iface 84 (pV e 0), .iface 86 (pV t 0)] [oldR w0, blkR t [.pointer none] 84] (Same [oldR w0, blkR t [pV e 0] 84] (bV true)) := by
  intro w own hH hO
  have h0 := hH 0 (oldR w0) rfl
  have h1 : BlkAt w (fun k => own k = 1 + 1) t [.pointer none] 84 := hH 1 (blkR t [.pointer none] 84) rfl
  refine (as_hit ⟨e, 0, none⟩ ⟨t, 0, none⟩ (.pointer none) w (oldR.cell h0 hw0) h1.c0 (h1.fr 0)).mono ?_
  rintro ev w' ⟨rfl, rfl⟩
  have M1 := ((((Mod.refl Nil w).alloc (.cells #[.pointer (some ⟨t, 0, none⟩)] 86)).alloc (.cells #[.pointer (some ⟨1, 86, none⟩), .pointer (some ⟨w.heap.size, 0, none⟩), .int .u64 150] 148)).alloc (.cells #[.pointer (some ⟨1, 86, none⟩), .pointer (some ⟨w.heap.size, 0, none⟩), .int .u64 150] 148)).alloc (.cells #[.pointer (some ⟨e, 0, none⟩)] 84)
  generalize ((((w.alloc (.cells #[.pointer (some ⟨t, 0, none⟩)] 86)).alloc (.cells #[.pointer (some ⟨1, 86, none⟩), .pointer (some ⟨w.heap.size, 0, none⟩), .int .u64 150] 148)).alloc (.cells #[.pointer (some ⟨1, 86, none⟩), .pointer (some ⟨w.heap.size, 0, none⟩), .int .u64 150] 148)).alloc (.cells #[.pointer (some ⟨e, 0, none⟩)] 84)) = W1 at M1 ⊢
  have b1 : BlkAt W1 (fun k => own k = 1 + 1) t [.pointer none] 84 := h1.move M1.size fun k hk hs => ⟨hs, M1.block k hk id⟩
  have M2 : Mod (fun k => k = t) w (W1.setCell ⟨t, 0, none⟩ (.pointer (some ⟨e, 0, none⟩))) := Mod.setCell (S := fun k => k = t) (p := ⟨t, 0, none⟩) (M1.mono fun _ _ q => q.elim) (fun _ => rfl) _
  refine ⟨_, rfl, [oldR w0, blkR t [pV e 0] 84], own, ⟨rfl, rfl⟩, fun i R hi => ?_, M2.mono fun k _ q => ?_, fun _ _ q => q⟩
  · match i, hi with
    | 0, hi => cases hi; exact (oldR w0).mov h0 M2.size fun k hk hs => ⟨hs, M2.block k hk fun q => by subst q; have := h1.2; omega⟩
    | 1, hi => cases hi; exact (blk_sets [pV e 0] 0 _ W1 b1).1
    | n + 2, hi => cases hi
  · subst q; rw [h1.2]; decide
theorem tri_is {pb : Nat} {x y : Value} {c d : Int} : Tri Tryz.prog 43 #[.iface 84 (pV pb 0), .iface 83 (iV d)] [blkR pb [x, y, .iface 83 (iV c)] 88] (Same [blkR pb [x, y, .iface 83 (iV c)] 88] (bV (decide (c = d)))) :=
  tri_same fun w own hH => by
    have h1 : BlkAt w (fun k => own k = 0 + 1) pb [x, y, .iface 83 (iV c)] 88 := hH 0 (blkR pb [x, y, .iface 83 (iV c)] 88) rfl
    exact (is_fault pb c d w h1.c2).mono fun e w' q => ⟨q.1, q.2.symm⟩
end Go.Proofs.YtholinnmjoelkaaGreatDoor
namespace Go.Proofs.YtholinnmjoelkaaGreatDoor
set_option maxHeartbeats 8000000
set_option maxRecDepth 100000
open Go.RowKit Go.MapKept
theorem wraps_fault {w0 : World} {e : Nat} {op key x y : ByteArray} {c d : Int} (hg : errT w0) : Tri Tryz.prog 14 #[.iface 84 (pV e 0), sV op, sV key, iV d] [oldR w0, blkR e [sV x, sV y, .iface 83 (iV c)] 88] (Same [oldR w0, blkR e [sV x, sV y, .iface 83 (iV c)] 88] (bV (decide (¬ d = 0 ∧ x = op ∧ y = key ∧ c = d)))) := by
 refine Tri.en (args := [.iface 84 (pV e 0), sV op, sV key, iV d]) Tryz.func14 (fun B wz => ?_)
 refine Cd.s1 (Sq.vl [0] [bV false] (Sq.d4 (Cd.seq (Cd.s1 (Sq.vl [0] [iV d] (Sq.v (r := bV (decide (d = 0))) (o_eqI (k := .i64) (a := d) (b := 0) (by kernel_rfl) (by kernel_rfl)) rfl (by kernel_rfl) (Sq.d4 ?_)))))))
 refine Cd.case (p := d = 0) (by kernel_rfl) (fun h1 => ?_) (fun h1 => ?_)
 ·
  refine Cd.s1 (Sq.vl [0, 1, 2] [.iface 84 (pV e 0), bV false, bV false] (Sq.d4 (Cd.ret (Ex'.thenRet (Ex'.ret Tryz.results14 (RVs.tm (v := bV false) RVs.nil) (fun w hw => ?_))))))
  exact ⟨_, ⟨congrArg Value.bool (by simp [h1]), rfl⟩, hw.pk [0, 1]⟩
 ·
  refine Cd.skip (Ex'.next (Cd.s1 ?_))
  refine Sq.e0 [] (l := []) (o_new [.pointer none] (fun w => by kernel_rfl)) rfl ?_; intro b2 _
  refine Sq.d1 (Sq.vl [0, 1, 2, 3, 4] [.iface 84 (pV e 0), bV true, bV true, .iface 84 (pV e 0), .iface 86 (pV b2 0)] (Sq.sm [0, 2] (l := [oldR w0, blkR b2 [.pointer none] 84]) (o_cl Tryz.call42 (tri_as hg (e := e))) rfl (Sq.vl [6, 7] [bV true, bV true] (Sq.sm [2] (l := [blkR b2 [pV e 0] 84]) (o_ld (i := 0) (v := pV e 0)) rfl (Sq.vl [9, 10, 11] [bV true, bV true, bV true] (Sq.sm [2] (l := [blkR b2 [pV e 0] 84]) (o_ld (i := 0) (v := pV e 0)) rfl (Sq.vl [13, 14] [pV e 0, pV e 0] ?_)))))))
  refine Sq.sm [1] (l := [blkR e [sV x, sV y, .iface 83 (iV c)] 88]) (o_ld (i := 0) (v := sV x)) rfl (Sq.vl [16] [sV op] (Sq.v (r := bV (decide (x = op))) (o_eqS (a := x) (b := op) (by kernel_rfl) (by kernel_rfl)) rfl (by kernel_rfl) (Sq.vl [18, 19] [bV (decide (x = op)), bV (decide (x = op))] ?_)))
  refine Sq.case 33 (p := x = op) rfl (fun h3 => ?_) (fun h3 => ?_)
  ·
   refine Sq.sm [2] (l := [blkR b2 [pV e 0] 84]) (o_ld (i := 0) (v := pV e 0)) rfl (Sq.vl [21, 22] [pV e 0, pV e 1] (Sq.sm [1] (l := [blkR e [sV x, sV y, .iface 83 (iV c)] 88]) (o_ld (i := 1) (v := sV y)) rfl (Sq.vl [24] [sV key] (Sq.v (r := bV (decide (y = key))) (o_eqS (a := y) (b := key) (by kernel_rfl) (by kernel_rfl)) rfl (by kernel_rfl) (Sq.vl [26, 27] [bV (decide (y = key)), bV (decide (y = key))] ?_)))))
   refine Sq.case 41 (p := y = key) rfl (fun h4 => ?_) (fun h4 => ?_)
   ·
    refine Sq.vl [28, 29, 30] [.iface 84 (pV e 0), iV d, .iface 83 (iV d)] (Sq.sm [1] (l := [blkR e [sV x, sV y, .iface 83 (iV c)] 88]) (o_cl Tryz.call43 (tri_is (c := c) (d := d))) rfl (Sq.vl [32, 33] [bV (decide (c = d)), bV (decide (c = d))] (Sq.d4 (Cd.ret (Ex'.ret Tryz.results14 (RVs.tm (v := bV (decide (c = d))) RVs.nil) (fun w hw => ?_))))))
    exact ⟨_, ⟨congrArg Value.bool (by simp [h1, h3, h4]), rfl⟩, hw.pk [0, 1]⟩
   ·
    refine Sq.vl [28, 29, 30, 31, 32, 33] [undef, undef, undef, undef, bV false, bV false] (Sq.d4 (Cd.ret (Ex'.ret Tryz.results14 (RVs.tm (v := bV false) RVs.nil) (fun w hw => ?_))))
    exact ⟨_, ⟨congrArg Value.bool (by simp [h1, h3, h4]), rfl⟩, hw.pk [0, 1]⟩
  ·
   refine Sq.vl [20, 21, 22, 23, 24, 25, 26, 27, 28, 29, 30, 31, 32, 33] [undef, undef, undef, undef, undef, undef, bV false, bV false, undef, undef, undef, undef, bV false, bV false] (Sq.d4 (Cd.ret (Ex'.ret Tryz.results14 (RVs.tm (v := bV false) RVs.nil) (fun w hw => ?_))))
   exact ⟨_, ⟨congrArg Value.bool (by simp [h1, h3]), rfl⟩, hw.pk [0, 1]⟩
end Go.Proofs.YtholinnmjoelkaaGreatDoor
namespace Go.Proofs.YtholinnmjoelkaaGreatDoor
open Go.RowKit Go.MapKept
section
variable {l : List Res} {v u : Value} {xs ys : List ByteArray}
theorem t_has03 (key : ByteArray) (h : ∀ w own, Holds l own w → ∃ S, Strs w S v xs) : Tri Tryz.prog 18 #[v, sV key] l (Same l (bV (decide (key ∈ xs)))) := tri_same fun w own hH => by
  obtain ⟨S, h1⟩ := h w own hH
  exact r_Has h1 key
end
theorem strs_addr {w : World} {S : Nat → Prop} {a : Option Addr} {n cap : Nat} {ks : List ByteArray} (h : Strs w S (.slice a n cap) ks) (hn : 0 < ks.length) : ∃ g off, a = some ⟨g, off, none⟩ := by
  have hl : n = ks.length := by obtain ⟨a', cap', e, _⟩ := h; injection e
  subst hl
  obtain ⟨g, off, e, _⟩ := Cells.addr h hn; exact ⟨g, off, e⟩
theorem get_map {ks : List ByteArray} {k : Nat} (h : k < ks.length) : (ks.map Value.string)[k]? = some (.string (ks.getD k ⟨#[]⟩)) := by
  rw [List.getElem?_map, List.getElem?_eq_getElem h, List.getD_eq_getElem?_getD, List.getElem?_eq_getElem h]; rfl
def LawP (w0 : World) : Value → List Res → Prop := fun v l' => v = bV true ∧ l'[0]? = some (oldR w0)
theorem law_of {P : Program} {f : Nat} {args : Array Value} {w : World} (h : Tri P f args [oldR w] (LawP w)) : Calls P f args w fun e w' => e = .returned (.bool true) ∧ Below w.heap.size w w' := by
  refine (h w (fun k => if k < w.heap.size then 1 else 0) (fun i R hi => ?_) fun k _ => ?_).mono ?_
  · match i, hi with
    | 0, hi => cases hi; exact ⟨Nat.le_refl _, fun k hk => ⟨by simp [hk], rfl⟩⟩
  · simp; split <;> omega
  · rintro e w' ⟨v, rfl, l', own', ⟨rfl, h1⟩, h2, h3, h4⟩
    refine ⟨rfl, h3.os, h3.tape, h3.output, h3.size, fun k hk => ?_⟩
    exact oldR.mod (h2 0 _ h1) hk
end Go.Proofs.YtholinnmjoelkaaGreatDoor
namespace Go.Proofs.YtholinnmjoelkaaGreatDoor
set_option maxHeartbeats 8000000
set_option maxRecDepth 100000
open Go.RowKit Go.MapKept
theorem pol_fault (op : ByteArray) (c : Int)  : Tri Tryz.prog 41 #[sV op, iV c] [] (PostE (fun _ => True) (fun b => .iface 84 (pV b 0)) fun b => [blkR b [sV op, sV ⟨#[]⟩, .iface 83 (iV c)] 88]) := by
 refine Tri.en (args := [sV op, iV c]) Tryz.func41 (fun B wz => ?_)
 refine Cd.s1 (Sq.vl [0] [.nilIface] (Sq.d1 (Sq.vl [0, 1, 2, 3] [sV op, iV c, .iface 83 (iV c), .agg #[sV op, sV ⟨#[]⟩, .iface 83 (iV c)]] ?_)))
 refine Sq.e0 [] (l := []) (o_newBox (v := .agg #[sV op, sV ⟨#[]⟩, .iface 83 (iV c)]) [sV op, sV ⟨#[]⟩, .iface 83 (iV c)] (by kernel_rfl) rfl) rfl ?_; intro b3 _
 refine Sq.vl [5, 6] [.iface 84 (pV b3 0), .iface 84 (pV b3 0)] (Sq.d4 (Cd.ret (Ex'.ret Tryz.results41 (RVs.tm (v := .iface 84 (pV b3 0)) RVs.nil) (fun w hw => ?_))))
 exact ⟨_, ⟨b3, trivial, rfl, rfl⟩, hw.pk [0]⟩
theorem pol_NewK {kind most : Int} (hk : ¬ (0 ≤ kind ∧ kind ≤ 4)) : Tri Tryz.prog 15 #[iV kind, iV most] [] (PostE (fun _ => True) (fun e => .tuple #[.pointer none, .iface 84 (pV e 0)]) fun e => [blkR e [sV ⟨#[112, 111, 108, 105, 99, 121]⟩, sV ⟨#[]⟩, .iface 83 (iV 7)] 88]) := by
 refine Tri.en (args := [iV kind, iV most]) Tryz.func15 (fun B wz => ?_)
 refine Cd.s1 (Sq.vl [0, 1] [.pointer none, .nilIface] (Sq.d4 (Cd.seq (Cd.s1 (Sq.vl [0, 1, 2] [iV kind, bV (decide (kind < 0)), bV (decide (kind < 0))] ?_)))))
 refine Sq.case 14 (p := kind < 0) rfl (fun h1 => ?_) (fun h1 => ?_)
 ·
  refine Sq.vl [3, 4, 5] [undef, undef, bV true] (Sq.d4 (Cd.cT (Cd.s1 ?_)))
  refine Sq.e1 [] (l := []) (o_cl Tryz.call41 (pol_fault ⟨#[112, 111, 108, 105, 99, 121]⟩ 7)) rfl ?_; rintro b3 _
  refine Sq.vl [1, 2] [.pointer none, .iface 84 (pV b3 0)] (Sq.d4 (Cd.ret (Ex'.thenRet (Ex'.ret Tryz.results15 (RVs.tm (v := .pointer none) (RVs.tmp (v := .iface 84 (pV b3 0)) (by kernel_rfl) RVs.nil)) (fun w hw => ?_)))))
  exact ⟨_, ⟨b3, trivial, rfl, rfl⟩, hw.pk [0]⟩
 ·
  refine Sq.vl [3] [iV kind] (Sq.v (r := bV (decide (kind > 4))) (pureV (by kernel_rfl) rfl fun w => by kernel_rfl) rfl (by kernel_rfl) (Sq.re 16 rfl (vT (by omega)) (Sq.vl [5] [bV true] (Sq.d4 (Cd.cT (Cd.s1 ?_))))))
  refine Sq.e1 [] (l := []) (o_cl Tryz.call41 (pol_fault ⟨#[112, 111, 108, 105, 99, 121]⟩ 7)) rfl ?_; rintro b4 _
  refine Sq.vl [1, 2] [.pointer none, .iface 84 (pV b4 0)] (Sq.d4 (Cd.ret (Ex'.thenRet (Ex'.ret Tryz.results15 (RVs.tm (v := .pointer none) (RVs.tmp (v := .iface 84 (pV b4 0)) (by kernel_rfl) RVs.nil)) (fun w hw => ?_)))))
  exact ⟨_, ⟨b4, trivial, rfl, rfl⟩, hw.pk [0]⟩
theorem pol_NewR {kind most : Int} (hk : 0 ≤ kind ∧ kind ≤ 4) (hr : ¬ (0 ≤ most ∧ most ≤ 16777216)) : Tri Tryz.prog 15 #[iV kind, iV most] [] (PostE (fun _ => True) (fun e => .tuple #[.pointer none, .iface 84 (pV e 0)]) fun e => [blkR e [sV ⟨#[112, 111, 108, 105, 99, 121]⟩, sV ⟨#[]⟩, .iface 83 (iV 1)] 88]) := by
 refine Tri.en (args := [iV kind, iV most]) Tryz.func15 (fun B wz => ?_)
 refine Cd.s1 (Sq.vl [0, 1] [.pointer none, .nilIface] (Sq.d4 (Cd.seq (Cd.s1 (Sq.vl [0] [iV kind] (Sq.v (r := bV (decide (kind < 0))) (pureV (by kernel_rfl) rfl fun w => by kernel_rfl) rfl (by kernel_rfl) (Sq.re 13 rfl (vF (by omega)) (Sq.vl [2, 3] [bV false, iV kind] (Sq.v (r := bV (decide (kind > 4))) (pureV (by kernel_rfl) rfl fun w => by kernel_rfl) rfl (by kernel_rfl) ?_)))))))))
 refine Sq.re 16 rfl (vF (by omega)) (Sq.vl [5] [bV false] (Sq.d4 (Cd.cF (Cd.skip (Ex'.next (Cd.seq (Cd.s1 (Sq.vl [0] [iV most] (Sq.sm [] (l := []) (o_cl Tryz.call44 ((t_right (m := most)).re (vF hr))) rfl (Sq.vl [2] [bV true] ?_))))))))))
 refine Sq.d4 (Cd.cT (Cd.s1 ?_))
 refine Sq.e1 [] (l := []) (o_cl Tryz.call41 (pol_fault ⟨#[112, 111, 108, 105, 99, 121]⟩ 1)) rfl ?_; rintro b3 _
 refine Sq.vl [1, 2] [.pointer none, .iface 84 (pV b3 0)] (Sq.d4 (Cd.ret (Ex'.thenRet (Ex'.ret Tryz.results15 (RVs.tm (v := .pointer none) (RVs.tmp (v := .iface 84 (pV b3 0)) (by kernel_rfl) RVs.nil)) (fun w hw => ?_)))))
 exact ⟨_, ⟨b3, trivial, rfl, rfl⟩, hw.pk [0]⟩
theorem pol_Name_0   : Tri Tryz.prog 12 #[iV 0] [] (Same [] (.tuple #[sV ⟨#[76, 82, 85]⟩, .nilIface])) := by
 refine Tri.en (args := [iV 0]) Tryz.func12 (fun B wz => ?_)
 refine Cd.s1 (Sq.vl [0, 1] [sV ⟨#[]⟩, .nilIface] (Sq.d1 (Sq.vl [0] [.agg #[sV ⟨#[76, 82, 85]⟩, sV ⟨#[76, 70, 85]⟩, sV ⟨#[67, 82, 45, 76, 70, 85]⟩, sV ⟨#[83, 82, 45, 76, 82, 85]⟩, sV ⟨#[65, 82, 67]⟩, sV ⟨#[76, 101, 67, 97, 82]⟩, sV ⟨#[67, 65, 67, 72, 69, 85, 83]⟩]] ?_)))
 refine Sq.e0 [] (l := []) (o_new [sV ⟨#[]⟩, sV ⟨#[]⟩, sV ⟨#[]⟩, sV ⟨#[]⟩, sV ⟨#[]⟩, sV ⟨#[]⟩, sV ⟨#[]⟩] (fun w => by kernel_rfl)) rfl ?_; intro b3 _
 refine Sq.sm [0] (l := [blkR b3 [sV ⟨#[]⟩, sV ⟨#[]⟩, sV ⟨#[]⟩, sV ⟨#[]⟩, sV ⟨#[]⟩, sV ⟨#[]⟩, sV ⟨#[]⟩] 81]) (o_st (i := 0) (v := .agg #[sV ⟨#[76, 82, 85]⟩, sV ⟨#[76, 70, 85]⟩, sV ⟨#[67, 82, 45, 76, 70, 85]⟩, sV ⟨#[83, 82, 45, 76, 82, 85]⟩, sV ⟨#[65, 82, 67]⟩, sV ⟨#[76, 101, 67, 97, 82]⟩, sV ⟨#[67, 65, 67, 72, 69, 85, 83]⟩])) rfl (Sq.d4 (Cd.seq (Cd.s1 (Sq.vl [0, 1, 2, 3, 4, 5] [iV 0, bV false, bV false, iV 0, bV false, bV false] (Sq.d4 (Cd.cF (Cd.skip (Ex'.next (Cd.s1 (Sq.vl [0, 1] [iV 0, pV b3 0] (Sq.sm [0] (l := [blkR b3 [sV ⟨#[76, 82, 85]⟩, sV ⟨#[76, 70, 85]⟩, sV ⟨#[67, 82, 45, 76, 70, 85]⟩, sV ⟨#[83, 82, 45, 76, 82, 85]⟩, sV ⟨#[65, 82, 67]⟩, sV ⟨#[76, 101, 67, 97, 82]⟩, sV ⟨#[67, 65, 67, 72, 69, 85, 83]⟩] 81]) (o_ld (i := 0) (v := sV ⟨#[76, 82, 85]⟩)) rfl ?_)))))))))))
 refine Sq.vl [3, 4] [sV ⟨#[76, 82, 85]⟩, .nilIface] (Sq.d4 (Cd.ret (Ex'.ret Tryz.results12 (RVs.tm (v := sV ⟨#[76, 82, 85]⟩) (RVs.tmp (v := .nilIface) (by kernel_rfl) RVs.nil)) (fun w hw => ?_))))
 exact ⟨_, ⟨rfl, rfl⟩, hw.pk []⟩
theorem pol_Name_1   : Tri Tryz.prog 12 #[iV 1] [] (Same [] (.tuple #[sV ⟨#[76, 70, 85]⟩, .nilIface])) := by
 refine Tri.en (args := [iV 1]) Tryz.func12 (fun B wz => ?_)
 refine Cd.s1 (Sq.vl [0, 1] [sV ⟨#[]⟩, .nilIface] (Sq.d1 (Sq.vl [0] [.agg #[sV ⟨#[76, 82, 85]⟩, sV ⟨#[76, 70, 85]⟩, sV ⟨#[67, 82, 45, 76, 70, 85]⟩, sV ⟨#[83, 82, 45, 76, 82, 85]⟩, sV ⟨#[65, 82, 67]⟩, sV ⟨#[76, 101, 67, 97, 82]⟩, sV ⟨#[67, 65, 67, 72, 69, 85, 83]⟩]] ?_)))
 refine Sq.e0 [] (l := []) (o_new [sV ⟨#[]⟩, sV ⟨#[]⟩, sV ⟨#[]⟩, sV ⟨#[]⟩, sV ⟨#[]⟩, sV ⟨#[]⟩, sV ⟨#[]⟩] (fun w => by kernel_rfl)) rfl ?_; intro b3 _
 refine Sq.sm [0] (l := [blkR b3 [sV ⟨#[]⟩, sV ⟨#[]⟩, sV ⟨#[]⟩, sV ⟨#[]⟩, sV ⟨#[]⟩, sV ⟨#[]⟩, sV ⟨#[]⟩] 81]) (o_st (i := 0) (v := .agg #[sV ⟨#[76, 82, 85]⟩, sV ⟨#[76, 70, 85]⟩, sV ⟨#[67, 82, 45, 76, 70, 85]⟩, sV ⟨#[83, 82, 45, 76, 82, 85]⟩, sV ⟨#[65, 82, 67]⟩, sV ⟨#[76, 101, 67, 97, 82]⟩, sV ⟨#[67, 65, 67, 72, 69, 85, 83]⟩])) rfl (Sq.d4 (Cd.seq (Cd.s1 (Sq.vl [0, 1, 2, 3, 4, 5] [iV 1, bV false, bV false, iV 1, bV false, bV false] (Sq.d4 (Cd.cF (Cd.skip (Ex'.next (Cd.s1 (Sq.vl [0, 1] [iV 1, pV b3 1] (Sq.sm [0] (l := [blkR b3 [sV ⟨#[76, 82, 85]⟩, sV ⟨#[76, 70, 85]⟩, sV ⟨#[67, 82, 45, 76, 70, 85]⟩, sV ⟨#[83, 82, 45, 76, 82, 85]⟩, sV ⟨#[65, 82, 67]⟩, sV ⟨#[76, 101, 67, 97, 82]⟩, sV ⟨#[67, 65, 67, 72, 69, 85, 83]⟩] 81]) (o_ld (i := 1) (v := sV ⟨#[76, 70, 85]⟩)) rfl ?_)))))))))))
 refine Sq.vl [3, 4] [sV ⟨#[76, 70, 85]⟩, .nilIface] (Sq.d4 (Cd.ret (Ex'.ret Tryz.results12 (RVs.tm (v := sV ⟨#[76, 70, 85]⟩) (RVs.tmp (v := .nilIface) (by kernel_rfl) RVs.nil)) (fun w hw => ?_))))
 exact ⟨_, ⟨rfl, rfl⟩, hw.pk []⟩
theorem pol_Name_2   : Tri Tryz.prog 12 #[iV 2] [] (Same [] (.tuple #[sV ⟨#[67, 82, 45, 76, 70, 85]⟩, .nilIface])) := by
 refine Tri.en (args := [iV 2]) Tryz.func12 (fun B wz => ?_)
 refine Cd.s1 (Sq.vl [0, 1] [sV ⟨#[]⟩, .nilIface] (Sq.d1 (Sq.vl [0] [.agg #[sV ⟨#[76, 82, 85]⟩, sV ⟨#[76, 70, 85]⟩, sV ⟨#[67, 82, 45, 76, 70, 85]⟩, sV ⟨#[83, 82, 45, 76, 82, 85]⟩, sV ⟨#[65, 82, 67]⟩, sV ⟨#[76, 101, 67, 97, 82]⟩, sV ⟨#[67, 65, 67, 72, 69, 85, 83]⟩]] ?_)))
 refine Sq.e0 [] (l := []) (o_new [sV ⟨#[]⟩, sV ⟨#[]⟩, sV ⟨#[]⟩, sV ⟨#[]⟩, sV ⟨#[]⟩, sV ⟨#[]⟩, sV ⟨#[]⟩] (fun w => by kernel_rfl)) rfl ?_; intro b3 _
 refine Sq.sm [0] (l := [blkR b3 [sV ⟨#[]⟩, sV ⟨#[]⟩, sV ⟨#[]⟩, sV ⟨#[]⟩, sV ⟨#[]⟩, sV ⟨#[]⟩, sV ⟨#[]⟩] 81]) (o_st (i := 0) (v := .agg #[sV ⟨#[76, 82, 85]⟩, sV ⟨#[76, 70, 85]⟩, sV ⟨#[67, 82, 45, 76, 70, 85]⟩, sV ⟨#[83, 82, 45, 76, 82, 85]⟩, sV ⟨#[65, 82, 67]⟩, sV ⟨#[76, 101, 67, 97, 82]⟩, sV ⟨#[67, 65, 67, 72, 69, 85, 83]⟩])) rfl (Sq.d4 (Cd.seq (Cd.s1 (Sq.vl [0, 1, 2, 3, 4, 5] [iV 2, bV false, bV false, iV 2, bV false, bV false] (Sq.d4 (Cd.cF (Cd.skip (Ex'.next (Cd.s1 (Sq.vl [0, 1] [iV 2, pV b3 2] (Sq.sm [0] (l := [blkR b3 [sV ⟨#[76, 82, 85]⟩, sV ⟨#[76, 70, 85]⟩, sV ⟨#[67, 82, 45, 76, 70, 85]⟩, sV ⟨#[83, 82, 45, 76, 82, 85]⟩, sV ⟨#[65, 82, 67]⟩, sV ⟨#[76, 101, 67, 97, 82]⟩, sV ⟨#[67, 65, 67, 72, 69, 85, 83]⟩] 81]) (o_ld (i := 2) (v := sV ⟨#[67, 82, 45, 76, 70, 85]⟩)) rfl ?_)))))))))))
 refine Sq.vl [3, 4] [sV ⟨#[67, 82, 45, 76, 70, 85]⟩, .nilIface] (Sq.d4 (Cd.ret (Ex'.ret Tryz.results12 (RVs.tm (v := sV ⟨#[67, 82, 45, 76, 70, 85]⟩) (RVs.tmp (v := .nilIface) (by kernel_rfl) RVs.nil)) (fun w hw => ?_))))
 exact ⟨_, ⟨rfl, rfl⟩, hw.pk []⟩
theorem pol_Name_3   : Tri Tryz.prog 12 #[iV 3] [] (Same [] (.tuple #[sV ⟨#[83, 82, 45, 76, 82, 85]⟩, .nilIface])) := by
 refine Tri.en (args := [iV 3]) Tryz.func12 (fun B wz => ?_)
 refine Cd.s1 (Sq.vl [0, 1] [sV ⟨#[]⟩, .nilIface] (Sq.d1 (Sq.vl [0] [.agg #[sV ⟨#[76, 82, 85]⟩, sV ⟨#[76, 70, 85]⟩, sV ⟨#[67, 82, 45, 76, 70, 85]⟩, sV ⟨#[83, 82, 45, 76, 82, 85]⟩, sV ⟨#[65, 82, 67]⟩, sV ⟨#[76, 101, 67, 97, 82]⟩, sV ⟨#[67, 65, 67, 72, 69, 85, 83]⟩]] ?_)))
 refine Sq.e0 [] (l := []) (o_new [sV ⟨#[]⟩, sV ⟨#[]⟩, sV ⟨#[]⟩, sV ⟨#[]⟩, sV ⟨#[]⟩, sV ⟨#[]⟩, sV ⟨#[]⟩] (fun w => by kernel_rfl)) rfl ?_; intro b3 _
 refine Sq.sm [0] (l := [blkR b3 [sV ⟨#[]⟩, sV ⟨#[]⟩, sV ⟨#[]⟩, sV ⟨#[]⟩, sV ⟨#[]⟩, sV ⟨#[]⟩, sV ⟨#[]⟩] 81]) (o_st (i := 0) (v := .agg #[sV ⟨#[76, 82, 85]⟩, sV ⟨#[76, 70, 85]⟩, sV ⟨#[67, 82, 45, 76, 70, 85]⟩, sV ⟨#[83, 82, 45, 76, 82, 85]⟩, sV ⟨#[65, 82, 67]⟩, sV ⟨#[76, 101, 67, 97, 82]⟩, sV ⟨#[67, 65, 67, 72, 69, 85, 83]⟩])) rfl (Sq.d4 (Cd.seq (Cd.s1 (Sq.vl [0, 1, 2, 3, 4, 5] [iV 3, bV false, bV false, iV 3, bV false, bV false] (Sq.d4 (Cd.cF (Cd.skip (Ex'.next (Cd.s1 (Sq.vl [0, 1] [iV 3, pV b3 3] (Sq.sm [0] (l := [blkR b3 [sV ⟨#[76, 82, 85]⟩, sV ⟨#[76, 70, 85]⟩, sV ⟨#[67, 82, 45, 76, 70, 85]⟩, sV ⟨#[83, 82, 45, 76, 82, 85]⟩, sV ⟨#[65, 82, 67]⟩, sV ⟨#[76, 101, 67, 97, 82]⟩, sV ⟨#[67, 65, 67, 72, 69, 85, 83]⟩] 81]) (o_ld (i := 3) (v := sV ⟨#[83, 82, 45, 76, 82, 85]⟩)) rfl ?_)))))))))))
 refine Sq.vl [3, 4] [sV ⟨#[83, 82, 45, 76, 82, 85]⟩, .nilIface] (Sq.d4 (Cd.ret (Ex'.ret Tryz.results12 (RVs.tm (v := sV ⟨#[83, 82, 45, 76, 82, 85]⟩) (RVs.tmp (v := .nilIface) (by kernel_rfl) RVs.nil)) (fun w hw => ?_))))
 exact ⟨_, ⟨rfl, rfl⟩, hw.pk []⟩
theorem pol_Name_4   : Tri Tryz.prog 12 #[iV 4] [] (Same [] (.tuple #[sV ⟨#[65, 82, 67]⟩, .nilIface])) := by
 refine Tri.en (args := [iV 4]) Tryz.func12 (fun B wz => ?_)
 refine Cd.s1 (Sq.vl [0, 1] [sV ⟨#[]⟩, .nilIface] (Sq.d1 (Sq.vl [0] [.agg #[sV ⟨#[76, 82, 85]⟩, sV ⟨#[76, 70, 85]⟩, sV ⟨#[67, 82, 45, 76, 70, 85]⟩, sV ⟨#[83, 82, 45, 76, 82, 85]⟩, sV ⟨#[65, 82, 67]⟩, sV ⟨#[76, 101, 67, 97, 82]⟩, sV ⟨#[67, 65, 67, 72, 69, 85, 83]⟩]] ?_)))
 refine Sq.e0 [] (l := []) (o_new [sV ⟨#[]⟩, sV ⟨#[]⟩, sV ⟨#[]⟩, sV ⟨#[]⟩, sV ⟨#[]⟩, sV ⟨#[]⟩, sV ⟨#[]⟩] (fun w => by kernel_rfl)) rfl ?_; intro b3 _
 refine Sq.sm [0] (l := [blkR b3 [sV ⟨#[]⟩, sV ⟨#[]⟩, sV ⟨#[]⟩, sV ⟨#[]⟩, sV ⟨#[]⟩, sV ⟨#[]⟩, sV ⟨#[]⟩] 81]) (o_st (i := 0) (v := .agg #[sV ⟨#[76, 82, 85]⟩, sV ⟨#[76, 70, 85]⟩, sV ⟨#[67, 82, 45, 76, 70, 85]⟩, sV ⟨#[83, 82, 45, 76, 82, 85]⟩, sV ⟨#[65, 82, 67]⟩, sV ⟨#[76, 101, 67, 97, 82]⟩, sV ⟨#[67, 65, 67, 72, 69, 85, 83]⟩])) rfl (Sq.d4 (Cd.seq (Cd.s1 (Sq.vl [0, 1, 2, 3, 4, 5] [iV 4, bV false, bV false, iV 4, bV false, bV false] (Sq.d4 (Cd.cF (Cd.skip (Ex'.next (Cd.s1 (Sq.vl [0, 1] [iV 4, pV b3 4] (Sq.sm [0] (l := [blkR b3 [sV ⟨#[76, 82, 85]⟩, sV ⟨#[76, 70, 85]⟩, sV ⟨#[67, 82, 45, 76, 70, 85]⟩, sV ⟨#[83, 82, 45, 76, 82, 85]⟩, sV ⟨#[65, 82, 67]⟩, sV ⟨#[76, 101, 67, 97, 82]⟩, sV ⟨#[67, 65, 67, 72, 69, 85, 83]⟩] 81]) (o_ld (i := 4) (v := sV ⟨#[65, 82, 67]⟩)) rfl ?_)))))))))))
 refine Sq.vl [3, 4] [sV ⟨#[65, 82, 67]⟩, .nilIface] (Sq.d4 (Cd.ret (Ex'.ret Tryz.results12 (RVs.tm (v := sV ⟨#[65, 82, 67]⟩) (RVs.tmp (v := .nilIface) (by kernel_rfl) RVs.nil)) (fun w hw => ?_))))
 exact ⟨_, ⟨rfl, rfl⟩, hw.pk []⟩
theorem pol_Name_5   : Tri Tryz.prog 12 #[iV 5] [] (Same [] (.tuple #[sV ⟨#[76, 101, 67, 97, 82]⟩, .nilIface])) := by
 refine Tri.en (args := [iV 5]) Tryz.func12 (fun B wz => ?_)
 refine Cd.s1 (Sq.vl [0, 1] [sV ⟨#[]⟩, .nilIface] (Sq.d1 (Sq.vl [0] [.agg #[sV ⟨#[76, 82, 85]⟩, sV ⟨#[76, 70, 85]⟩, sV ⟨#[67, 82, 45, 76, 70, 85]⟩, sV ⟨#[83, 82, 45, 76, 82, 85]⟩, sV ⟨#[65, 82, 67]⟩, sV ⟨#[76, 101, 67, 97, 82]⟩, sV ⟨#[67, 65, 67, 72, 69, 85, 83]⟩]] ?_)))
 refine Sq.e0 [] (l := []) (o_new [sV ⟨#[]⟩, sV ⟨#[]⟩, sV ⟨#[]⟩, sV ⟨#[]⟩, sV ⟨#[]⟩, sV ⟨#[]⟩, sV ⟨#[]⟩] (fun w => by kernel_rfl)) rfl ?_; intro b3 _
 refine Sq.sm [0] (l := [blkR b3 [sV ⟨#[]⟩, sV ⟨#[]⟩, sV ⟨#[]⟩, sV ⟨#[]⟩, sV ⟨#[]⟩, sV ⟨#[]⟩, sV ⟨#[]⟩] 81]) (o_st (i := 0) (v := .agg #[sV ⟨#[76, 82, 85]⟩, sV ⟨#[76, 70, 85]⟩, sV ⟨#[67, 82, 45, 76, 70, 85]⟩, sV ⟨#[83, 82, 45, 76, 82, 85]⟩, sV ⟨#[65, 82, 67]⟩, sV ⟨#[76, 101, 67, 97, 82]⟩, sV ⟨#[67, 65, 67, 72, 69, 85, 83]⟩])) rfl (Sq.d4 (Cd.seq (Cd.s1 (Sq.vl [0, 1, 2, 3, 4, 5] [iV 5, bV false, bV false, iV 5, bV false, bV false] (Sq.d4 (Cd.cF (Cd.skip (Ex'.next (Cd.s1 (Sq.vl [0, 1] [iV 5, pV b3 5] (Sq.sm [0] (l := [blkR b3 [sV ⟨#[76, 82, 85]⟩, sV ⟨#[76, 70, 85]⟩, sV ⟨#[67, 82, 45, 76, 70, 85]⟩, sV ⟨#[83, 82, 45, 76, 82, 85]⟩, sV ⟨#[65, 82, 67]⟩, sV ⟨#[76, 101, 67, 97, 82]⟩, sV ⟨#[67, 65, 67, 72, 69, 85, 83]⟩] 81]) (o_ld (i := 5) (v := sV ⟨#[76, 101, 67, 97, 82]⟩)) rfl ?_)))))))))))
 refine Sq.vl [3, 4] [sV ⟨#[76, 101, 67, 97, 82]⟩, .nilIface] (Sq.d4 (Cd.ret (Ex'.ret Tryz.results12 (RVs.tm (v := sV ⟨#[76, 101, 67, 97, 82]⟩) (RVs.tmp (v := .nilIface) (by kernel_rfl) RVs.nil)) (fun w hw => ?_))))
 exact ⟨_, ⟨rfl, rfl⟩, hw.pk []⟩
theorem pol_Name_6   : Tri Tryz.prog 12 #[iV 6] [] (Same [] (.tuple #[sV ⟨#[67, 65, 67, 72, 69, 85, 83]⟩, .nilIface])) := by
 refine Tri.en (args := [iV 6]) Tryz.func12 (fun B wz => ?_)
 refine Cd.s1 (Sq.vl [0, 1] [sV ⟨#[]⟩, .nilIface] (Sq.d1 (Sq.vl [0] [.agg #[sV ⟨#[76, 82, 85]⟩, sV ⟨#[76, 70, 85]⟩, sV ⟨#[67, 82, 45, 76, 70, 85]⟩, sV ⟨#[83, 82, 45, 76, 82, 85]⟩, sV ⟨#[65, 82, 67]⟩, sV ⟨#[76, 101, 67, 97, 82]⟩, sV ⟨#[67, 65, 67, 72, 69, 85, 83]⟩]] ?_)))
 refine Sq.e0 [] (l := []) (o_new [sV ⟨#[]⟩, sV ⟨#[]⟩, sV ⟨#[]⟩, sV ⟨#[]⟩, sV ⟨#[]⟩, sV ⟨#[]⟩, sV ⟨#[]⟩] (fun w => by kernel_rfl)) rfl ?_; intro b3 _
 refine Sq.sm [0] (l := [blkR b3 [sV ⟨#[]⟩, sV ⟨#[]⟩, sV ⟨#[]⟩, sV ⟨#[]⟩, sV ⟨#[]⟩, sV ⟨#[]⟩, sV ⟨#[]⟩] 81]) (o_st (i := 0) (v := .agg #[sV ⟨#[76, 82, 85]⟩, sV ⟨#[76, 70, 85]⟩, sV ⟨#[67, 82, 45, 76, 70, 85]⟩, sV ⟨#[83, 82, 45, 76, 82, 85]⟩, sV ⟨#[65, 82, 67]⟩, sV ⟨#[76, 101, 67, 97, 82]⟩, sV ⟨#[67, 65, 67, 72, 69, 85, 83]⟩])) rfl (Sq.d4 (Cd.seq (Cd.s1 (Sq.vl [0, 1, 2, 3, 4, 5] [iV 6, bV false, bV false, iV 6, bV false, bV false] (Sq.d4 (Cd.cF (Cd.skip (Ex'.next (Cd.s1 (Sq.vl [0, 1] [iV 6, pV b3 6] (Sq.sm [0] (l := [blkR b3 [sV ⟨#[76, 82, 85]⟩, sV ⟨#[76, 70, 85]⟩, sV ⟨#[67, 82, 45, 76, 70, 85]⟩, sV ⟨#[83, 82, 45, 76, 82, 85]⟩, sV ⟨#[65, 82, 67]⟩, sV ⟨#[76, 101, 67, 97, 82]⟩, sV ⟨#[67, 65, 67, 72, 69, 85, 83]⟩] 81]) (o_ld (i := 6) (v := sV ⟨#[67, 65, 67, 72, 69, 85, 83]⟩)) rfl ?_)))))))))))
 refine Sq.vl [3, 4] [sV ⟨#[67, 65, 67, 72, 69, 85, 83]⟩, .nilIface] (Sq.d4 (Cd.ret (Ex'.ret Tryz.results12 (RVs.tm (v := sV ⟨#[67, 65, 67, 72, 69, 85, 83]⟩) (RVs.tmp (v := .nilIface) (by kernel_rfl) RVs.nil)) (fun w hw => ?_))))
 exact ⟨_, ⟨rfl, rfl⟩, hw.pk []⟩
def pName (k : Int) : ByteArray := if k = 0 then ⟨#[76, 82, 85]⟩ else if k = 1 then ⟨#[76, 70, 85]⟩ else if k = 2 then ⟨#[67, 82, 45, 76, 70, 85]⟩ else if k = 3 then ⟨#[83, 82, 45, 76, 82, 85]⟩ else if k = 4 then ⟨#[65, 82, 67]⟩ else if k = 5 then ⟨#[76, 101, 67, 97, 82]⟩ else ⟨#[67, 65, 67, 72, 69, 85, 83]⟩
theorem pol_Name {k : Int} (h : 0 ≤ k ∧ k ≤ 6) : Tri Tryz.prog 12 #[iV k] [] (Same [] (.tuple #[sV (pName k), .nilIface])) := by
 rcases (by omega : k = 0 ∨ k = 1 ∨ k = 2 ∨ k = 3 ∨ k = 4 ∨ k = 5 ∨ k = 6) with rfl | rfl | rfl | rfl | rfl | rfl | rfl
 · exact pol_Name_0
 · exact pol_Name_1
 · exact pol_Name_2
 · exact pol_Name_3
 · exact pol_Name_4
 · exact pol_Name_5
 · exact pol_Name_6
theorem o_eqStep_ne {σ : List (Nat × Value)} {dst : Option Tmp} {ty yt : TypeId} {pos : String} {after : Array Edge} {g : Option (Nat × Bool)} {x y : Operand} (a0 b0 : Bool) (a1 b1 : ByteArray) (a2 b2 : Bool) (hx : ev σ x = some (.agg #[bV a0, sV a1, bV a2])) (hy : ev σ y = some (.agg #[bV b0, sV b1, bV b2])) :
  OprV Tryz.prog σ ⟨dst, .binOp .neq 37 x y yt, ty, pos, after, g⟩ (.bool (decide (¬ (a0 = b0 ∧ a1 = b1 ∧ a2 = b2)))) := oprV_of fun ρ hρ w => by
 have u4 := Tryz.underlying4
 have a4_ := Tryz.isAgg4
 have z4_ := Tryz.sizeOf4
 have u9 := Tryz.underlying9
 have a9_ := Tryz.isAgg9
 have z9_ := Tryz.sizeOf9
 have hS : Tryz.prog.underlying 37 = some (.struct (Tryz.prog.fieldsOf 37)) := by kernel_rfl
 have hp : Tryz.prog.stoodInHeld 37 = false := by kernel_rfl
 simp only [execOp, hρ x _ hx, hρ y _ hy, Sem.run_bind, run_eqGuard_agg (P := Tryz.prog) w .neq 37 _ _ _ _ (by kernel_rfl), Result.andThen_ok]
 rw [run_neq_struct, show (10000 : Nat) = 9999 + 1 from rfl, run_equalIn_agg w 9999 37 _ _ hS hp]
 simp only [Program.fieldsOf, Tryz.underlying37]
 go_simp
 by_cases h0 : a0 = b0 <;> by_cases h1 : a1 = b1 <;> by_cases h2 : a2 = b2 <;> simp [h0, h1, h2, tl_iff]
end Go.Proofs.YtholinnmjoelkaaGreatDoor
namespace Go.Proofs.YtholinnmjoelkaaGreatDoor
section
variable {most : Int} {K K' G G' : LB} {key vic : ByteArray} {hit out was ok : Bool}
theorem ReqP.out_in (h : ReqP most K key K' hit vic out) (hk : key ∈ K) : out = false := h.outE.trans (decide_eq_false fun q => q.1 hk)
theorem ReqP.out_no (h : ReqP most K key K' hit vic out) (hk : key ∉ K) : out = decide ((K.length : Int) = most) := h.outE.trans (by rw [decide_eq_decide]; exact ⟨fun q => q.2, fun q => ⟨hk, q⟩⟩)
theorem ReqP.len_in (h : ReqP most K key K' hit vic out) (hk : key ∈ K) : (K'.length : Int) = K.length := by
  have h1 := h.len; rw [h.hitE, decide_eq_true hk, h.out_in hk] at h1; simp at h1; omega
theorem ReqP.len_out (h : ReqP most K key K' hit vic out) (hk : key ∉ K) (ho : out = true) : (K'.length : Int) = K.length ∧ (K.length : Int) = most := by
  have h1 := h.len; have h2 := h.out_no hk; rw [h.hitE, decide_eq_false hk, ho] at h1; rw [ho] at h2; simp at h1
  exact ⟨by omega, of_decide_eq_true h2.symm⟩
theorem ReqP.len_new (h : ReqP most K key K' hit vic out) (hk : key ∉ K) (ho : out = false) : (K'.length : Int) = K.length + 1 ∧ (K.length : Int) ≠ most := by
  have h1 := h.len; have h2 := h.out_no hk; rw [h.hitE, decide_eq_false hk, ho] at h1; rw [ho] at h2; simp at h1
  exact ⟨by omega, of_decide_eq_false h2.symm⟩
theorem ReqP.none (h : ReqP most K key K' hit vic out) {k : ByteArray} (hk : k ≠ key) (hn : k ∉ K) : k ∉ K' := fun q => by
  have h1 := cn_mem.1 q; rw [h.cn, if_neg hk, cn_zero hn] at h1; omega
theorem AdoP.keep (h : AdoP most K key K' G' ok) {k : ByteArray} (hk : k ∈ K) : k ∈ K' := by
  cases e : ok with
  | false => rw [h.no e]; exact hk
  | true =>
    refine cn_mem.2 ?_
    have := cn_mem.1 hk
    rw [h.cn e]; split <;> omega
theorem AdoP.mem (h : AdoP most K key K' G' ok) : key ∈ K' ↔ key ∈ K ∨ ok = true := by
  constructor
  · intro q
    cases e : ok with
    | false => rw [h.no e] at q; exact .inl q
    | true => exact .inr rfl
  · rintro (q | q)
    · exact h.keep q
    · exact cn_mem.2 (by rw [h.cn q, if_pos rfl]; exact Nat.one_pos)
theorem RszP.stay {less : Int} {out : LB} (h : RszP less K K' out) {k : ByteArray} (hk : k ∈ K) (hno : k ∉ K') : k ∈ out := by
  have h1 := h.cn k; have h2 := cn_mem.1 hk; rw [cn_zero hno] at h1
  exact cn_mem.2 (by omega)
end
structure DrI (i : Int) (st0 st : PSt) (j : Nat) : Prop where
  i : st.Inv i
  m : st.most = st0.most
  len : st.keys.length + j = st0.keys.length
  sub : ∀ k, k ∈ st.keys → k ∈ st0.keys
  g : st.ghosts = st0.ghosts
theorem DrI.step {i : Int} {st0 st : PSt} {j : Nat} (h : DrI i st0 st j) (hj : j < st0.keys.length) {x} (hx : st.drop = x) :
    x.2.2 = true ∧ st.victim = x.2 ∧ x.2.1 ∉ x.1.keys ∧ x.2.1 ∈ st0.keys ∧ DrI i st0 x.1 (j + 1) := by
  obtain ⟨h1, h2, h3, h4, h5⟩ := PSt.Inv.drop h.i hx
  have hl := h.len
  have ok : x.2.2 = true := h4.okE.trans (decide_eq_true (by omega))
  have hv := h4.vin ok
  have hc := h4.cn ok
  have nd := nodup_cn.1 h.i.nodup
  refine ⟨ok, h5, fun q => ?_, h.sub _ hv, h1, h2.trans h.m, by have := h4.len ok; omega, fun k q => h.sub k (cn_mem.2 ?_), h4.gho.trans h.g⟩
  · have q1 := cn_mem.1 q; have q2 := hc x.2.1; rw [if_pos rfl] at q2; have := nd x.2.1; omega
  · have q1 := cn_mem.1 q; have q2 := hc k; omega
theorem DrI.fin {i : Int} {st0 st : PSt} {j : Nat} (h : DrI i st0 st j) (hj : ¬ j < st0.keys.length) {x} (hx : st.drop = x) :
    x.2.2 = false ∧ x.1.victim.2 = false ∧ x.1.ghosts = st0.ghosts := by
  obtain ⟨h1, h2, h3, h4, h5⟩ := PSt.Inv.drop h.i hx
  have hl := h.len
  have ok : x.2.2 = false := h4.okE.trans (decide_eq_false (by omega))
  have e := h4.no ok
  obtain ⟨-, -, -, g4, g5⟩ := PSt.Inv.drop h1 rfl
  exact ⟨ok, by rw [g5]; exact g4.okE.trans (decide_eq_false (by rw [e]; omega)), h4.gho.trans h.g⟩
theorem awk {st0 : PSt} {i : Int} (hI : st0.Inv i) (hm : st0.most = 2) (hK : st0.keys = []) {a b c : ByteArray} (hab : b ≠ a) (hac : c ≠ a) (hbc : c ≠ b) {x5 x7 x9 x13 : PSt × Bool × ByteArray × Bool} (h5 : st0.req a = x5) (h7 : x5.1.req a = x7) (h9 : x7.1.req b = x9) (h13 : x9.1.req c = x13) :
    (x5.2.1 = false ∧ x5.2.2.1 = ⟨#[]⟩ ∧ x5.2.2.2 = false) ∧ (x7.2.1 = true ∧ x7.2.2.1 = ⟨#[]⟩ ∧ x7.2.2.2 = false) ∧ x13.2.2.2 = true ∧ (x13.1.keys.length : Int) = 2 ∧ c ∈ x13.1.keys ∧ x13.1.kind = st0.kind ∧ x13.1.most = 2 ∧ x13.1.victim.2 = true ∧ x13.1.victim.1 ∈ x13.1.keys := by
  obtain ⟨I5, m5, k5, R5, -⟩ := PSt.Inv.req hI a h5
  obtain ⟨I7, m7, k7, R7, -⟩ := PSt.Inv.req I5 a h7
  obtain ⟨I9, m9, k9, R9, -⟩ := PSt.Inv.req I7 b h9
  obtain ⟨I13, m13, k13, R13, -⟩ := PSt.Inv.req I9 c h13
  rw [hm] at m5; rw [m5] at m7; rw [m7] at m9; rw [m9] at m13
  have P5 := R5 (by omega); have P7 := R7 (by omega); have P9 := R9 (by omega); have P13 := R13 (by omega)
  rw [hm, hK] at P5; rw [m5] at P7; rw [m7] at P9; rw [m9] at P13
  have na : a ∉ ([] : LB) := by simp
  have o5 : x5.2.2.2 = false := (P5.out_no na).trans (by decide)
  have t5 : x5.2.1 = false := P5.hitE.trans (decide_eq_false na)
  have l5 := (P5.len_new na o5).1
  have a5 := P5.mem
  have o7 := P7.out_in a5
  have l7 := P7.len_in a5
  have b5 : b ∉ x5.1.keys := P5.none hab (by simp)
  have b7 : b ∉ x7.1.keys := P7.none hab b5
  have o9 : x9.2.2.2 = false := (P9.out_no b7).trans (decide_eq_false (by simp at l5; omega))
  have l9 := (P9.len_new b7 o9).1
  have c9 : c ∉ x9.1.keys := P9.none hbc (P7.none hac (P5.none hac (by simp)))
  have o13 : x13.2.2.2 = true := (P13.out_no c9).trans (decide_eq_true (by simp at l5; omega))
  have l13 := (P13.len_out c9 o13).1
  obtain ⟨-, -, -, D, V⟩ := PSt.Inv.drop I13 rfl
  have hL : (x13.1.keys.length : Int) = 2 := by simp at l5; omega
  have dok : (x13.1.drop).2.2 = true := D.okE.trans (decide_eq_true (by omega))
  exact ⟨⟨t5, P5.vno o5, o5⟩, ⟨P7.hitE.trans (decide_eq_true a5), P7.vno o7, o7⟩, o13, hL, P13.mem, by rw [k13, k9, k7, k5], m13, by rw [V]; exact dok, by rw [V]; exact D.vin dok⟩
end Go.Proofs.YtholinnmjoelkaaGreatDoor
