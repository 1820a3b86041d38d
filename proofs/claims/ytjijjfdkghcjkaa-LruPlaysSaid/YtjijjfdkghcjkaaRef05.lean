/- The reference's cache of layer 5 (cachewiseref05): New, Request, Adopt, Resize. -/
import Derived.Test.YtjijjfdkghcjkaaLruD
set_option linter.unusedVariables false
namespace Go.Proofs.Ytjijjfdkghcjkaa
open Go.RowKit Go.MapKept

theorem cell_lt {w : World} {g o : Nat} {v : Value} (h : w.cell? ⟨g, o, none⟩ = some v) : g < w.heap.size := World.block_lt_of_cell? w _ h
/-- The call made something out of what lies in S, and has turned nothing. -/
def MakesFrom (S : Nat → Prop) (w : World) (r : Value → Value) (N : Value → World → (Nat → Prop) → Prop) : Ending → World → Prop := fun e w' =>
  ∃ v, e = .returned (r v) ∧ Mod Nil w w' ∧ N v w' (fun k => S k ∨ w.heap.size ≤ k)
theorem step_from {own0 own : Nat → Nat} {w0 w : World} {c : Nat} {P : Program} {f : Nat} {args : Array Value} {r : Value → Value} {N : Value → World → (Nat → Prop) → Prop} [∀ v, Mov (N v)] {w1 : World} (hB : Home own0 w0 w own) (h : Calls P f args w1 (MakesFrom (fun k => own k = c) w r N)) :
    Calls P f args w1 fun e w' => ∃ v own', e = .returned (r v) ∧ Home own0 w0 w' own' ∧ N v w' (fun k => own' k = c) ∧ ∀ c', Keeps w w' own own' c' :=
  h.mono fun _ _ ⟨v, he, hm, hl⟩ => ⟨v, paint own w c, he, hB.made c hm, Mov.mono hl fun k q => took (S' := fun k => own k = c ∨ w.heap.size ≤ k) (fun _ q => q) k q, fun c' => keeps_made hm c c'⟩

theorem Strs.head {w : World} {S : Nat → Prop} {g off n cap : Nat} {xs : List ByteArray} {x : ByteArray} (h : Strs w S (.slice (some ⟨g, off, none⟩) n cap) xs) (hx : xs[0]? = some x) : w.cell? ⟨g, off, none⟩ = some (.string x) := by
  have := h.getAt hx
  simpa using this
/-- All but the first one. -/
theorem Strs.tail {w : World} {S : Nat → Prop} {g off n cap : Nat} {xs : List ByteArray} {A : Option Addr} (h : Strs w S (.slice (some ⟨g, off, none⟩) n cap) xs) (hn : 1 ≤ n) (hA : (if cap = 1 then (some ⟨g, off, none⟩ : Option Addr) else some ⟨g, off + 1, none⟩) = A) : Strs w S (.slice A (n - 1) (cap - 1)) (xs.drop 1) := by
  have := h.cutFrom hn
  rw [Option.map_some, addr_add', hA] at this
  exact this

section
variable {w : World} {S : Nat → Prop} {v : Value} {M : Int} {ks : List ByteArray}
theorem ref05_New (m : Int) (hm : -9223372036854775808 ≤ m ∧ m ≤ 9223372036854775807) : Calls Try.prog 26 #[.int .i64 m] w (After Nil w (.agg #[.int .i64 (max m 0), .slice none 0 0]) fun _ _ => True) := by
  have HB := hid (Home.start none0 w)
  by_cases h0 : m < 0
  · rw [show max m 0 = 0 by omega]
    go_enter Try.func26, Try.ntmps26
    go_wp2_with fail
    obtain ⟨own1, hB', hL', hK'⟩ := home_alloc HB.out [.int .i64 0, .slice none 0 0] 42 1
    have HR := hid hL'
    replace HB := hid hB'
    clear hB' hL' hK'
    have hsz_x1 : Hid ((w.alloc (.cells [.int .i64 0, .slice none 0 0].toArray 42)).heap.size = w.heap.size + 1) := hid (by simp)
    generalize w.alloc (.cells [.int .i64 0, .slice none 0 0].toArray 42) = x1 at HB hsz_x1 HR ⊢
    have r0 := HR.out.1.at 0 _ rfl
    have r1 := HR.out.1.at 1 _ rfl
    have rlt := HR.out.1.lt
    exact bodyPost_ret (v := .agg #[.int .i64 0, .slice none 0 0]) (by simp [results, Try.results26, go_sem, r0, r1]) rfl ⟨rfl, HB.out.nil, Nil, fun _ q => .inl q, trivial⟩
  · rw [show max m 0 = m by omega]
    go_enter Try.func26, Try.ntmps26
    go_wp2_with fail
    obtain ⟨own1, hB', hL', hK'⟩ := home_alloc HB.out [.int .i64 m, .slice none 0 0] 42 1
    have HR := hid hL'
    replace HB := hid hB'
    clear hB' hL' hK'
    have hsz_x1 : Hid ((w.alloc (.cells [.int .i64 m, .slice none 0 0].toArray 42)).heap.size = w.heap.size + 1) := hid (by simp)
    generalize w.alloc (.cells [.int .i64 m, .slice none 0 0].toArray 42) = x1 at HB hsz_x1 HR ⊢
    have r0 := HR.out.1.at 0 _ rfl
    have r1 := HR.out.1.at 1 _ rfl
    have rlt := HR.out.1.lt
    exact bodyPost_ret (v := .agg #[.int .i64 m, .slice none 0 0]) (by simp [results, Try.results26, go_sem, r0, r1]) rfl ⟨rfl, HB.out.nil, Nil, fun _ q => .inl q, trivial⟩

set_option maxHeartbeats 3200000 in
set_option maxRecDepth 100000 in
theorem ref05_Request (h : Strs w S v ks) (hl : ks.length ≤ 1000000) (h0M : 0 ≤ M) (key : ByteArray) :
    Calls Try.prog 27 #[.agg #[.int .i64 M, v], .string key] w (MakesFrom S w (fun u => .tuple #[.agg #[.int .i64 M, u], lruStep M ks key]) fun u w S => Strs w S u (lruReq M ks key)) := by
  have HV := hid h
  have HB := hid (Home.start none0 w)
  obtain ⟨a, cap, rfl, hc1, hc2, _⟩ := h.shape
  unfold maxLen at hc2
  clear h
  by_cases h0 : M = 0
  · have hm : (M == 0) = true := eqt h0
    rw [show lruStep M ks key = .agg #[.bool (decide (key ∈ ks)), .string ⟨#[]⟩, .bool false] by unfold lruStep stepV; rw [if_pos h0], show lruReq M ks key = ks by unfold lruReq; rw [if_pos h0]]
    generalize hd : decide (key ∈ ks) = d
    have HD := hid hd
    clear hd h0
    go_enter Try.func27, Try.ntmps27
    go_wp2_with fail
    obtain ⟨own1, hB', hL', hK'⟩ := home_alloc HB.out [.int .i64 M, .slice a ks.length cap] 42 1
    have HP := hid hL'
    replace HB := hid hB'
    clear hB' hL' hK'
    have hsz_x1 : Hid ((w.alloc (.cells [.int .i64 M, .slice a ks.length cap].toArray 42)).heap.size = w.heap.size + 1) := hid (by simp)
    generalize w.alloc (.cells [.int .i64 M, .slice a ks.length cap].toArray 42) = x1 at HB hsz_x1 HP ⊢
    obtain ⟨own2, hB', hL', hK'⟩ := home_alloc HB.out [.int .i64 0, .slice none 0 0] 42 2
    replace HP := hid (HP.out.keep (hK' 1))
    rw [hsz_x1.out] at hL'
    have H4 := hid hL'
    replace HB := hid hB'
    clear hB' hL' hK'
    have hsz_x2 : Hid ((x1.alloc (.cells [.int .i64 0, .slice none 0 0].toArray 42)).heap.size = w.heap.size + 2) := hid (by simp [hsz_x1.out])
    generalize x1.alloc (.cells [.int .i64 0, .slice none 0 0].toArray 42) = x2 at HB hsz_x2 HP H4 ⊢
    obtain ⟨own3, hB', hL', hK'⟩ := home_alloc HB.out [.bool false, .string ⟨#[]⟩, .bool false] 27 3
    replace HP := hid (HP.out.keep (hK' 1))
    replace H4 := hid (H4.out.keep (hK' 2))
    rw [hsz_x2.out] at hL'
    have H5 := hid hL'
    replace HB := hid hB'
    clear hB' hL' hK'
    have hsz_x3 : Hid ((x2.alloc (.cells [.bool false, .string ⟨#[]⟩, .bool false].toArray 27)).heap.size = w.heap.size + 3) := hid (by simp [hsz_x2.out])
    generalize x2.alloc (.cells [.bool false, .string ⟨#[]⟩, .bool false].toArray 27) = x3 at HB hsz_x3 HP H4 H5 ⊢
    obtain ⟨own4, hB', hL', hK'⟩ := home_alloc HB.out [.bool false, .string ⟨#[]⟩, .bool false] 27 4
    replace HP := hid (HP.out.keep (hK' 1))
    replace H4 := hid (H4.out.keep (hK' 2))
    replace H5 := hid (H5.out.keep (hK' 3))
    rw [hsz_x3.out] at hL'
    have HS := hid hL'
    replace HB := hid hB'
    clear hB' hL' hK'
    have hsz_x4 : Hid ((x3.alloc (.cells [.bool false, .string ⟨#[]⟩, .bool false].toArray 27)).heap.size = w.heap.size + 4) := hid (by simp [hsz_x3.out])
    generalize x3.alloc (.cells [.bool false, .string ⟨#[]⟩, .bool false].toArray 27) = x4 at HB hsz_x4 HP H4 H5 HS ⊢
    have p0 := HP.out.1.at 0 _ rfl
    have pf0 := HP.out.1.free 0
    have p1 := HP.out.1.at 1 _ rfl
    have pf1 := HP.out.1.free 1
    have plt := HP.out.1.lt
    have q0 := H4.out.1.at 0 _ rfl
    have qf0 := H4.out.1.free 0
    have q1 := H4.out.1.at 1 _ rfl
    have qf1 := H4.out.1.free 1
    have qlt := H4.out.1.lt
    have t0 := H5.out.1.at 0 _ rfl
    have tf0 := H5.out.1.free 0
    have t1 := H5.out.1.at 1 _ rfl
    have tf1 := H5.out.1.free 1
    have t2 := H5.out.1.at 2 _ rfl
    have tf2 := H5.out.1.free 2
    have tlt := H5.out.1.lt
    have s0 := HS.out.1.at 0 _ rfl
    have sf0 := HS.out.1.free 0
    have s1 := HS.out.1.at 1 _ rfl
    have sf1 := HS.out.1.free 1
    have s2 := HS.out.1.at 2 _ rfl
    have sf2 := HS.out.1.free 2
    have slt := HS.out.1.lt
    go_wp2_with fail
    have hct := (r_Has (HV.out.modNil HB.out.nil) key)
    with_reducible refine hct.mono ?_
    clear hct
    rintro e w' ⟨rfl, rfl⟩
    rw [HD.out]
    go_wp2_with fail
    obtain ⟨hB', hL', hK'⟩ := home_store HB.out (by decide) HS.out 0 (.bool d)
    replace HP := hid (HP.out.keep (hK' 1 (by decide)))
    replace H4 := hid (H4.out.keep (hK' 2 (by decide)))
    replace H5 := hid (H5.out.keep (hK' 3 (by decide)))
    replace HS := hid hL'
    replace HB := hid hB'
    clear hB' hL' hK'
    have hsz_x6 : Hid ((x4.setCell ⟨(w.heap.size+3), 0, none⟩ (.bool d)).heap.size = x4.heap.size) := hid (by simp)
    generalize x4.setCell ⟨(w.heap.size+3), 0, none⟩ (.bool d) = x6 at HB hsz_x6 HP H4 H5 HS ⊢
    replace p0 := HP.out.1.at 0 _ rfl
    replace pf0 := HP.out.1.free 0
    replace p1 := HP.out.1.at 1 _ rfl
    replace pf1 := HP.out.1.free 1
    replace plt := HP.out.1.lt
    replace q0 := H4.out.1.at 0 _ rfl
    replace qf0 := H4.out.1.free 0
    replace q1 := H4.out.1.at 1 _ rfl
    replace qf1 := H4.out.1.free 1
    replace qlt := H4.out.1.lt
    replace t0 := H5.out.1.at 0 _ rfl
    replace tf0 := H5.out.1.free 0
    replace t1 := H5.out.1.at 1 _ rfl
    replace tf1 := H5.out.1.free 1
    replace t2 := H5.out.1.at 2 _ rfl
    replace tf2 := H5.out.1.free 2
    replace tlt := H5.out.1.lt
    replace s0 := HS.out.1.at 0 _ rfl
    replace sf0 := HS.out.1.free 0
    replace s1 := HS.out.1.at 1 _ rfl
    replace sf1 := HS.out.1.free 1
    replace s2 := HS.out.1.at 2 _ rfl
    replace sf2 := HS.out.1.free 2
    replace slt := HS.out.1.lt
    go_region
    obtain ⟨hB', hL', hK'⟩ := home_store HB.out (by decide) H4.out 0 (.int .i64 M)
    replace HP := hid (HP.out.keep (hK' 1 (by decide)))
    replace H5 := hid (H5.out.keep (hK' 3 (by decide)))
    replace HS := hid (HS.out.keep (hK' 4 (by decide)))
    replace H4 := hid hL'
    replace HB := hid hB'
    clear hB' hL' hK'
    have hsz_x7 : Hid ((x6.setCell ⟨(w.heap.size+1), 0, none⟩ (.int .i64 M)).heap.size = x6.heap.size) := hid (by simp)
    generalize x6.setCell ⟨(w.heap.size+1), 0, none⟩ (.int .i64 M) = x7 at HB hsz_x7 HP H4 H5 HS ⊢
    replace p0 := HP.out.1.at 0 _ rfl
    replace pf0 := HP.out.1.free 0
    replace p1 := HP.out.1.at 1 _ rfl
    replace pf1 := HP.out.1.free 1
    replace plt := HP.out.1.lt
    replace q0 := H4.out.1.at 0 _ rfl
    replace qf0 := H4.out.1.free 0
    replace q1 := H4.out.1.at 1 _ rfl
    replace qf1 := H4.out.1.free 1
    replace qlt := H4.out.1.lt
    replace t0 := H5.out.1.at 0 _ rfl
    replace tf0 := H5.out.1.free 0
    replace t1 := H5.out.1.at 1 _ rfl
    replace tf1 := H5.out.1.free 1
    replace t2 := H5.out.1.at 2 _ rfl
    replace tf2 := H5.out.1.free 2
    replace tlt := H5.out.1.lt
    replace s0 := HS.out.1.at 0 _ rfl
    replace sf0 := HS.out.1.free 0
    replace s1 := HS.out.1.at 1 _ rfl
    replace sf1 := HS.out.1.free 1
    replace s2 := HS.out.1.at 2 _ rfl
    replace sf2 := HS.out.1.free 2
    replace slt := HS.out.1.lt
    obtain ⟨hB', hL', hK'⟩ := home_store HB.out (by decide) H4.out 1 (.slice a ks.length cap)
    replace HP := hid (HP.out.keep (hK' 1 (by decide)))
    replace H5 := hid (H5.out.keep (hK' 3 (by decide)))
    replace HS := hid (HS.out.keep (hK' 4 (by decide)))
    replace H4 := hid hL'
    replace HB := hid hB'
    clear hB' hL' hK'
    have hsz_x8 : Hid ((x7.setCell ⟨(w.heap.size+1), 1, none⟩ (.slice a ks.length cap)).heap.size = x6.heap.size) := hid (by simp [hsz_x7.out])
    generalize x7.setCell ⟨(w.heap.size+1), 1, none⟩ (.slice a ks.length cap) = x8 at HB hsz_x8 HP H4 H5 HS ⊢
    replace p0 := HP.out.1.at 0 _ rfl
    replace pf0 := HP.out.1.free 0
    replace p1 := HP.out.1.at 1 _ rfl
    replace pf1 := HP.out.1.free 1
    replace plt := HP.out.1.lt
    replace q0 := H4.out.1.at 0 _ rfl
    replace qf0 := H4.out.1.free 0
    replace q1 := H4.out.1.at 1 _ rfl
    replace qf1 := H4.out.1.free 1
    replace qlt := H4.out.1.lt
    replace t0 := H5.out.1.at 0 _ rfl
    replace tf0 := H5.out.1.free 0
    replace t1 := H5.out.1.at 1 _ rfl
    replace tf1 := H5.out.1.free 1
    replace t2 := H5.out.1.at 2 _ rfl
    replace tf2 := H5.out.1.free 2
    replace tlt := H5.out.1.lt
    replace s0 := HS.out.1.at 0 _ rfl
    replace sf0 := HS.out.1.free 0
    replace s1 := HS.out.1.at 1 _ rfl
    replace sf1 := HS.out.1.free 1
    replace s2 := HS.out.1.at 2 _ rfl
    replace sf2 := HS.out.1.free 2
    replace slt := HS.out.1.lt
    obtain ⟨hB', hL', hK'⟩ := home_store HB.out (by decide) H5.out 0 (.bool d)
    replace HP := hid (HP.out.keep (hK' 1 (by decide)))
    replace H4 := hid (H4.out.keep (hK' 2 (by decide)))
    replace HS := hid (HS.out.keep (hK' 4 (by decide)))
    replace H5 := hid hL'
    replace HB := hid hB'
    clear hB' hL' hK'
    have hsz_x9 : Hid ((x8.setCell ⟨(w.heap.size+2), 0, none⟩ (.bool d)).heap.size = x6.heap.size) := hid (by simp [hsz_x8.out])
    generalize x8.setCell ⟨(w.heap.size+2), 0, none⟩ (.bool d) = x9 at HB hsz_x9 HP H4 H5 HS ⊢
    replace p0 := HP.out.1.at 0 _ rfl
    replace pf0 := HP.out.1.free 0
    replace p1 := HP.out.1.at 1 _ rfl
    replace pf1 := HP.out.1.free 1
    replace plt := HP.out.1.lt
    replace q0 := H4.out.1.at 0 _ rfl
    replace qf0 := H4.out.1.free 0
    replace q1 := H4.out.1.at 1 _ rfl
    replace qf1 := H4.out.1.free 1
    replace qlt := H4.out.1.lt
    replace t0 := H5.out.1.at 0 _ rfl
    replace tf0 := H5.out.1.free 0
    replace t1 := H5.out.1.at 1 _ rfl
    replace tf1 := H5.out.1.free 1
    replace t2 := H5.out.1.at 2 _ rfl
    replace tf2 := H5.out.1.free 2
    replace tlt := H5.out.1.lt
    replace s0 := HS.out.1.at 0 _ rfl
    replace sf0 := HS.out.1.free 0
    replace s1 := HS.out.1.at 1 _ rfl
    replace sf1 := HS.out.1.free 1
    replace s2 := HS.out.1.at 2 _ rfl
    replace sf2 := HS.out.1.free 2
    replace slt := HS.out.1.lt
    obtain ⟨hB', hL', hK'⟩ := home_store HB.out (by decide) H5.out 1 (.string ⟨#[]⟩)
    replace HP := hid (HP.out.keep (hK' 1 (by decide)))
    replace H4 := hid (H4.out.keep (hK' 2 (by decide)))
    replace HS := hid (HS.out.keep (hK' 4 (by decide)))
    replace H5 := hid hL'
    replace HB := hid hB'
    clear hB' hL' hK'
    have hsz_x10 : Hid ((x9.setCell ⟨(w.heap.size+2), 1, none⟩ (.string ⟨#[]⟩)).heap.size = x6.heap.size) := hid (by simp [hsz_x9.out])
    generalize x9.setCell ⟨(w.heap.size+2), 1, none⟩ (.string ⟨#[]⟩) = x10 at HB hsz_x10 HP H4 H5 HS ⊢
    replace p0 := HP.out.1.at 0 _ rfl
    replace pf0 := HP.out.1.free 0
    replace p1 := HP.out.1.at 1 _ rfl
    replace pf1 := HP.out.1.free 1
    replace plt := HP.out.1.lt
    replace q0 := H4.out.1.at 0 _ rfl
    replace qf0 := H4.out.1.free 0
    replace q1 := H4.out.1.at 1 _ rfl
    replace qf1 := H4.out.1.free 1
    replace qlt := H4.out.1.lt
    replace t0 := H5.out.1.at 0 _ rfl
    replace tf0 := H5.out.1.free 0
    replace t1 := H5.out.1.at 1 _ rfl
    replace tf1 := H5.out.1.free 1
    replace t2 := H5.out.1.at 2 _ rfl
    replace tf2 := H5.out.1.free 2
    replace tlt := H5.out.1.lt
    replace s0 := HS.out.1.at 0 _ rfl
    replace sf0 := HS.out.1.free 0
    replace s1 := HS.out.1.at 1 _ rfl
    replace sf1 := HS.out.1.free 1
    replace s2 := HS.out.1.at 2 _ rfl
    replace sf2 := HS.out.1.free 2
    replace slt := HS.out.1.lt
    obtain ⟨hB', hL', hK'⟩ := home_store HB.out (by decide) H5.out 2 (.bool false)
    replace HP := hid (HP.out.keep (hK' 1 (by decide)))
    replace H4 := hid (H4.out.keep (hK' 2 (by decide)))
    replace HS := hid (HS.out.keep (hK' 4 (by decide)))
    replace H5 := hid hL'
    replace HB := hid hB'
    clear hB' hL' hK'
    have hsz_x11 : Hid ((x10.setCell ⟨(w.heap.size+2), 2, none⟩ (.bool false)).heap.size = x6.heap.size) := hid (by simp [hsz_x10.out])
    generalize x10.setCell ⟨(w.heap.size+2), 2, none⟩ (.bool false) = x11 at HB hsz_x11 HP H4 H5 HS ⊢
    replace p0 := HP.out.1.at 0 _ rfl
    replace pf0 := HP.out.1.free 0
    replace p1 := HP.out.1.at 1 _ rfl
    replace pf1 := HP.out.1.free 1
    replace plt := HP.out.1.lt
    replace q0 := H4.out.1.at 0 _ rfl
    replace qf0 := H4.out.1.free 0
    replace q1 := H4.out.1.at 1 _ rfl
    replace qf1 := H4.out.1.free 1
    replace qlt := H4.out.1.lt
    replace t0 := H5.out.1.at 0 _ rfl
    replace tf0 := H5.out.1.free 0
    replace t1 := H5.out.1.at 1 _ rfl
    replace tf1 := H5.out.1.free 1
    replace t2 := H5.out.1.at 2 _ rfl
    replace tf2 := H5.out.1.free 2
    replace tlt := H5.out.1.lt
    replace s0 := HS.out.1.at 0 _ rfl
    replace sf0 := HS.out.1.free 0
    replace s1 := HS.out.1.at 1 _ rfl
    replace sf1 := HS.out.1.free 1
    replace s2 := HS.out.1.at 2 _ rfl
    replace sf2 := HS.out.1.free 2
    replace slt := HS.out.1.lt
    obtain ⟨hB', hK'⟩ := home_drew HB.out
    replace HP := hid (HP.out.keep (hK' 1))
    replace H4 := hid (H4.out.keep (hK' 2))
    replace H5 := hid (H5.out.keep (hK' 3))
    replace HS := hid (HS.out.keep (hK' 4))
    replace HB := hid hB'
    clear hB' hK'
    replace p0 := HP.out.1.at 0 _ rfl
    replace pf0 := HP.out.1.free 0
    replace p1 := HP.out.1.at 1 _ rfl
    replace pf1 := HP.out.1.free 1
    replace plt := HP.out.1.lt
    replace q0 := H4.out.1.at 0 _ rfl
    replace qf0 := H4.out.1.free 0
    replace q1 := H4.out.1.at 1 _ rfl
    replace qf1 := H4.out.1.free 1
    replace qlt := H4.out.1.lt
    replace t0 := H5.out.1.at 0 _ rfl
    replace tf0 := H5.out.1.free 0
    replace t1 := H5.out.1.at 1 _ rfl
    replace tf1 := H5.out.1.free 1
    replace t2 := H5.out.1.at 2 _ rfl
    replace tf2 := H5.out.1.free 2
    replace tlt := H5.out.1.lt
    replace s0 := HS.out.1.at 0 _ rfl
    replace sf0 := HS.out.1.free 0
    replace s1 := HS.out.1.at 1 _ rfl
    replace sf1 := HS.out.1.free 1
    replace s2 := HS.out.1.at 2 _ rfl
    replace sf2 := HS.out.1.free 2
    replace slt := HS.out.1.lt
    go_wp2_with fail
    refine bodyPost_ret (v := .tuple #[.agg #[.int .i64 M, (.slice a ks.length cap)], .agg #[.bool d, .string ⟨#[]⟩, .bool false]]) (by simp [results, Try.results27, go_sem, q0, q1, t0, t1, t2]) rfl ⟨_, rfl, HB.out.nil, ?_⟩
    exact (HV.out.modNil HB.out.nil).mono fun _ _ q => .inl q
  · have hm : (M == 0) = false := eqf h0
    by_cases h1 : key ∈ ks
    · rw [show lruStep M ks key = .agg #[.bool true, .string ⟨#[]⟩, .bool false] by unfold lruStep stepV; rw [if_neg h0, if_pos h1], show lruReq M ks key = bk ks key by unfold lruReq; rw [if_neg h0, if_pos h1]]
      have HD := hid (show decide (key ∈ ks) = true by simp [h1])
      clear h0 h1
      go_enter Try.func27, Try.ntmps27
      go_wp2_with fail
      obtain ⟨own1, hB', hL', hK'⟩ := home_alloc HB.out [.int .i64 M, .slice a ks.length cap] 42 1
      have HP := hid hL'
      replace HB := hid hB'
      clear hB' hL' hK'
      have hsz_x1 : Hid ((w.alloc (.cells [.int .i64 M, .slice a ks.length cap].toArray 42)).heap.size = w.heap.size + 1) := hid (by simp)
      generalize w.alloc (.cells [.int .i64 M, .slice a ks.length cap].toArray 42) = x1 at HB hsz_x1 HP ⊢
      obtain ⟨own2, hB', hL', hK'⟩ := home_alloc HB.out [.int .i64 0, .slice none 0 0] 42 2
      replace HP := hid (HP.out.keep (hK' 1))
      rw [hsz_x1.out] at hL'
      have H4 := hid hL'
      replace HB := hid hB'
      clear hB' hL' hK'
      have hsz_x2 : Hid ((x1.alloc (.cells [.int .i64 0, .slice none 0 0].toArray 42)).heap.size = w.heap.size + 2) := hid (by simp [hsz_x1.out])
      generalize x1.alloc (.cells [.int .i64 0, .slice none 0 0].toArray 42) = x2 at HB hsz_x2 HP H4 ⊢
      obtain ⟨own3, hB', hL', hK'⟩ := home_alloc HB.out [.bool false, .string ⟨#[]⟩, .bool false] 27 3
      replace HP := hid (HP.out.keep (hK' 1))
      replace H4 := hid (H4.out.keep (hK' 2))
      rw [hsz_x2.out] at hL'
      have H5 := hid hL'
      replace HB := hid hB'
      clear hB' hL' hK'
      have hsz_x3 : Hid ((x2.alloc (.cells [.bool false, .string ⟨#[]⟩, .bool false].toArray 27)).heap.size = w.heap.size + 3) := hid (by simp [hsz_x2.out])
      generalize x2.alloc (.cells [.bool false, .string ⟨#[]⟩, .bool false].toArray 27) = x3 at HB hsz_x3 HP H4 H5 ⊢
      obtain ⟨own4, hB', hL', hK'⟩ := home_alloc HB.out [.bool false, .string ⟨#[]⟩, .bool false] 27 4
      replace HP := hid (HP.out.keep (hK' 1))
      replace H4 := hid (H4.out.keep (hK' 2))
      replace H5 := hid (H5.out.keep (hK' 3))
      rw [hsz_x3.out] at hL'
      have HS := hid hL'
      replace HB := hid hB'
      clear hB' hL' hK'
      have hsz_x4 : Hid ((x3.alloc (.cells [.bool false, .string ⟨#[]⟩, .bool false].toArray 27)).heap.size = w.heap.size + 4) := hid (by simp [hsz_x3.out])
      generalize x3.alloc (.cells [.bool false, .string ⟨#[]⟩, .bool false].toArray 27) = x4 at HB hsz_x4 HP H4 H5 HS ⊢
      have p0 := HP.out.1.at 0 _ rfl
      have pf0 := HP.out.1.free 0
      have p1 := HP.out.1.at 1 _ rfl
      have pf1 := HP.out.1.free 1
      have plt := HP.out.1.lt
      have q0 := H4.out.1.at 0 _ rfl
      have qf0 := H4.out.1.free 0
      have q1 := H4.out.1.at 1 _ rfl
      have qf1 := H4.out.1.free 1
      have qlt := H4.out.1.lt
      have t0 := H5.out.1.at 0 _ rfl
      have tf0 := H5.out.1.free 0
      have t1 := H5.out.1.at 1 _ rfl
      have tf1 := H5.out.1.free 1
      have t2 := H5.out.1.at 2 _ rfl
      have tf2 := H5.out.1.free 2
      have tlt := H5.out.1.lt
      have s0 := HS.out.1.at 0 _ rfl
      have sf0 := HS.out.1.free 0
      have s1 := HS.out.1.at 1 _ rfl
      have sf1 := HS.out.1.free 1
      have s2 := HS.out.1.at 2 _ rfl
      have sf2 := HS.out.1.free 2
      have slt := HS.out.1.lt
      go_wp2_with fail
      have hct := (r_Has (HV.out.modNil HB.out.nil) key)
      with_reducible refine hct.mono ?_
      clear hct
      rintro e w' ⟨rfl, rfl⟩
      rw [HD.out]
      go_wp2_with fail
      obtain ⟨hB', hL', hK'⟩ := home_store HB.out (by decide) HS.out 0 (.bool true)
      replace HP := hid (HP.out.keep (hK' 1 (by decide)))
      replace H4 := hid (H4.out.keep (hK' 2 (by decide)))
      replace H5 := hid (H5.out.keep (hK' 3 (by decide)))
      replace HS := hid hL'
      replace HB := hid hB'
      clear hB' hL' hK'
      have hsz_x6 : Hid ((x4.setCell ⟨(w.heap.size+3), 0, none⟩ (.bool true)).heap.size = x4.heap.size) := hid (by simp)
      generalize x4.setCell ⟨(w.heap.size+3), 0, none⟩ (.bool true) = x6 at HB hsz_x6 HP H4 H5 HS ⊢
      replace p0 := HP.out.1.at 0 _ rfl
      replace pf0 := HP.out.1.free 0
      replace p1 := HP.out.1.at 1 _ rfl
      replace pf1 := HP.out.1.free 1
      replace plt := HP.out.1.lt
      replace q0 := H4.out.1.at 0 _ rfl
      replace qf0 := H4.out.1.free 0
      replace q1 := H4.out.1.at 1 _ rfl
      replace qf1 := H4.out.1.free 1
      replace qlt := H4.out.1.lt
      replace t0 := H5.out.1.at 0 _ rfl
      replace tf0 := H5.out.1.free 0
      replace t1 := H5.out.1.at 1 _ rfl
      replace tf1 := H5.out.1.free 1
      replace t2 := H5.out.1.at 2 _ rfl
      replace tf2 := H5.out.1.free 2
      replace tlt := H5.out.1.lt
      replace s0 := HS.out.1.at 0 _ rfl
      replace sf0 := HS.out.1.free 0
      replace s1 := HS.out.1.at 1 _ rfl
      replace sf1 := HS.out.1.free 1
      replace s2 := HS.out.1.at 2 _ rfl
      replace sf2 := HS.out.1.free 2
      replace slt := HS.out.1.lt
      go_wp2_with fail
      have hct := step_make HB.out 5 (r_Back (HV.out.modNil HB.out.nil) (by omega) key)
      with_reducible refine hct.mono ?_
      clear hct
      rintro e x7 ⟨vb, own7, rfl, hB', hL', hK'⟩
      replace HP := hid (HP.out.keep (hK' 1))
      replace H4 := hid (H4.out.keep (hK' 2))
      replace H5 := hid (H5.out.keep (hK' 3))
      replace HS := hid (HS.out.keep (hK' 4))
      have HW := hid hL'
      replace HB := hid hB'
      clear hB' hL' hK'
      replace p0 := HP.out.1.at 0 _ rfl
      replace pf0 := HP.out.1.free 0
      replace p1 := HP.out.1.at 1 _ rfl
      replace pf1 := HP.out.1.free 1
      replace plt := HP.out.1.lt
      replace q0 := H4.out.1.at 0 _ rfl
      replace qf0 := H4.out.1.free 0
      replace q1 := H4.out.1.at 1 _ rfl
      replace qf1 := H4.out.1.free 1
      replace qlt := H4.out.1.lt
      replace t0 := H5.out.1.at 0 _ rfl
      replace tf0 := H5.out.1.free 0
      replace t1 := H5.out.1.at 1 _ rfl
      replace tf1 := H5.out.1.free 1
      replace t2 := H5.out.1.at 2 _ rfl
      replace tf2 := H5.out.1.free 2
      replace tlt := H5.out.1.lt
      replace s0 := HS.out.1.at 0 _ rfl
      replace sf0 := HS.out.1.free 0
      replace s1 := HS.out.1.at 1 _ rfl
      replace sf1 := HS.out.1.free 1
      replace s2 := HS.out.1.at 2 _ rfl
      replace sf2 := HS.out.1.free 2
      replace slt := HS.out.1.lt
      obtain ⟨ab, cb, rfl, _, _⟩ := HW.out.len
      go_wp2_with fail
      obtain ⟨hB', hL', hK'⟩ := home_store HB.out (by decide) HP.out 1 (.slice ab (bk ks key).length cb)
      replace H4 := hid (H4.out.keep (hK' 2 (by decide)))
      replace H5 := hid (H5.out.keep (hK' 3 (by decide)))
      replace HS := hid (HS.out.keep (hK' 4 (by decide)))
      replace HW := hid (HW.out.keep (hK' 5 (by decide)))
      replace HP := hid hL'
      replace HB := hid hB'
      clear hB' hL' hK'
      have hsz_x8 : Hid ((x7.setCell ⟨w.heap.size, 1, none⟩ (.slice ab (bk ks key).length cb)).heap.size = x7.heap.size) := hid (by simp)
      generalize x7.setCell ⟨w.heap.size, 1, none⟩ (.slice ab (bk ks key).length cb) = x8 at HB hsz_x8 HP H4 H5 HS HW ⊢
      replace p0 := HP.out.1.at 0 _ rfl
      replace pf0 := HP.out.1.free 0
      replace p1 := HP.out.1.at 1 _ rfl
      replace pf1 := HP.out.1.free 1
      replace plt := HP.out.1.lt
      replace q0 := H4.out.1.at 0 _ rfl
      replace qf0 := H4.out.1.free 0
      replace q1 := H4.out.1.at 1 _ rfl
      replace qf1 := H4.out.1.free 1
      replace qlt := H4.out.1.lt
      replace t0 := H5.out.1.at 0 _ rfl
      replace tf0 := H5.out.1.free 0
      replace t1 := H5.out.1.at 1 _ rfl
      replace tf1 := H5.out.1.free 1
      replace t2 := H5.out.1.at 2 _ rfl
      replace tf2 := H5.out.1.free 2
      replace tlt := H5.out.1.lt
      replace s0 := HS.out.1.at 0 _ rfl
      replace sf0 := HS.out.1.free 0
      replace s1 := HS.out.1.at 1 _ rfl
      replace sf1 := HS.out.1.free 1
      replace s2 := HS.out.1.at 2 _ rfl
      replace sf2 := HS.out.1.free 2
      replace slt := HS.out.1.lt
      go_region
      obtain ⟨hB', hL', hK'⟩ := home_store HB.out (by decide) H4.out 0 (.int .i64 M)
      replace HP := hid (HP.out.keep (hK' 1 (by decide)))
      replace H5 := hid (H5.out.keep (hK' 3 (by decide)))
      replace HS := hid (HS.out.keep (hK' 4 (by decide)))
      replace HW := hid (HW.out.keep (hK' 5 (by decide)))
      replace H4 := hid hL'
      replace HB := hid hB'
      clear hB' hL' hK'
      have hsz_x9 : Hid ((x8.setCell ⟨(w.heap.size+1), 0, none⟩ (.int .i64 M)).heap.size = x8.heap.size) := hid (by simp)
      generalize x8.setCell ⟨(w.heap.size+1), 0, none⟩ (.int .i64 M) = x9 at HB hsz_x9 HP H4 H5 HS HW ⊢
      replace p0 := HP.out.1.at 0 _ rfl
      replace pf0 := HP.out.1.free 0
      replace p1 := HP.out.1.at 1 _ rfl
      replace pf1 := HP.out.1.free 1
      replace plt := HP.out.1.lt
      replace q0 := H4.out.1.at 0 _ rfl
      replace qf0 := H4.out.1.free 0
      replace q1 := H4.out.1.at 1 _ rfl
      replace qf1 := H4.out.1.free 1
      replace qlt := H4.out.1.lt
      replace t0 := H5.out.1.at 0 _ rfl
      replace tf0 := H5.out.1.free 0
      replace t1 := H5.out.1.at 1 _ rfl
      replace tf1 := H5.out.1.free 1
      replace t2 := H5.out.1.at 2 _ rfl
      replace tf2 := H5.out.1.free 2
      replace tlt := H5.out.1.lt
      replace s0 := HS.out.1.at 0 _ rfl
      replace sf0 := HS.out.1.free 0
      replace s1 := HS.out.1.at 1 _ rfl
      replace sf1 := HS.out.1.free 1
      replace s2 := HS.out.1.at 2 _ rfl
      replace sf2 := HS.out.1.free 2
      replace slt := HS.out.1.lt
      obtain ⟨hB', hL', hK'⟩ := home_store HB.out (by decide) H4.out 1 (.slice ab (bk ks key).length cb)
      replace HP := hid (HP.out.keep (hK' 1 (by decide)))
      replace H5 := hid (H5.out.keep (hK' 3 (by decide)))
      replace HS := hid (HS.out.keep (hK' 4 (by decide)))
      replace HW := hid (HW.out.keep (hK' 5 (by decide)))
      replace H4 := hid hL'
      replace HB := hid hB'
      clear hB' hL' hK'
      have hsz_x10 : Hid ((x9.setCell ⟨(w.heap.size+1), 1, none⟩ (.slice ab (bk ks key).length cb)).heap.size = x8.heap.size) := hid (by simp [hsz_x9.out])
      generalize x9.setCell ⟨(w.heap.size+1), 1, none⟩ (.slice ab (bk ks key).length cb) = x10 at HB hsz_x10 HP H4 H5 HS HW ⊢
      replace p0 := HP.out.1.at 0 _ rfl
      replace pf0 := HP.out.1.free 0
      replace p1 := HP.out.1.at 1 _ rfl
      replace pf1 := HP.out.1.free 1
      replace plt := HP.out.1.lt
      replace q0 := H4.out.1.at 0 _ rfl
      replace qf0 := H4.out.1.free 0
      replace q1 := H4.out.1.at 1 _ rfl
      replace qf1 := H4.out.1.free 1
      replace qlt := H4.out.1.lt
      replace t0 := H5.out.1.at 0 _ rfl
      replace tf0 := H5.out.1.free 0
      replace t1 := H5.out.1.at 1 _ rfl
      replace tf1 := H5.out.1.free 1
      replace t2 := H5.out.1.at 2 _ rfl
      replace tf2 := H5.out.1.free 2
      replace tlt := H5.out.1.lt
      replace s0 := HS.out.1.at 0 _ rfl
      replace sf0 := HS.out.1.free 0
      replace s1 := HS.out.1.at 1 _ rfl
      replace sf1 := HS.out.1.free 1
      replace s2 := HS.out.1.at 2 _ rfl
      replace sf2 := HS.out.1.free 2
      replace slt := HS.out.1.lt
      obtain ⟨hB', hL', hK'⟩ := home_store HB.out (by decide) H5.out 0 (.bool true)
      replace HP := hid (HP.out.keep (hK' 1 (by decide)))
      replace H4 := hid (H4.out.keep (hK' 2 (by decide)))
      replace HS := hid (HS.out.keep (hK' 4 (by decide)))
      replace HW := hid (HW.out.keep (hK' 5 (by decide)))
      replace H5 := hid hL'
      replace HB := hid hB'
      clear hB' hL' hK'
      have hsz_x11 : Hid ((x10.setCell ⟨(w.heap.size+2), 0, none⟩ (.bool true)).heap.size = x8.heap.size) := hid (by simp [hsz_x10.out])
      generalize x10.setCell ⟨(w.heap.size+2), 0, none⟩ (.bool true) = x11 at HB hsz_x11 HP H4 H5 HS HW ⊢
      replace p0 := HP.out.1.at 0 _ rfl
      replace pf0 := HP.out.1.free 0
      replace p1 := HP.out.1.at 1 _ rfl
      replace pf1 := HP.out.1.free 1
      replace plt := HP.out.1.lt
      replace q0 := H4.out.1.at 0 _ rfl
      replace qf0 := H4.out.1.free 0
      replace q1 := H4.out.1.at 1 _ rfl
      replace qf1 := H4.out.1.free 1
      replace qlt := H4.out.1.lt
      replace t0 := H5.out.1.at 0 _ rfl
      replace tf0 := H5.out.1.free 0
      replace t1 := H5.out.1.at 1 _ rfl
      replace tf1 := H5.out.1.free 1
      replace t2 := H5.out.1.at 2 _ rfl
      replace tf2 := H5.out.1.free 2
      replace tlt := H5.out.1.lt
      replace s0 := HS.out.1.at 0 _ rfl
      replace sf0 := HS.out.1.free 0
      replace s1 := HS.out.1.at 1 _ rfl
      replace sf1 := HS.out.1.free 1
      replace s2 := HS.out.1.at 2 _ rfl
      replace sf2 := HS.out.1.free 2
      replace slt := HS.out.1.lt
      obtain ⟨hB', hL', hK'⟩ := home_store HB.out (by decide) H5.out 1 (.string ⟨#[]⟩)
      replace HP := hid (HP.out.keep (hK' 1 (by decide)))
      replace H4 := hid (H4.out.keep (hK' 2 (by decide)))
      replace HS := hid (HS.out.keep (hK' 4 (by decide)))
      replace HW := hid (HW.out.keep (hK' 5 (by decide)))
      replace H5 := hid hL'
      replace HB := hid hB'
      clear hB' hL' hK'
      have hsz_x12 : Hid ((x11.setCell ⟨(w.heap.size+2), 1, none⟩ (.string ⟨#[]⟩)).heap.size = x8.heap.size) := hid (by simp [hsz_x11.out])
      generalize x11.setCell ⟨(w.heap.size+2), 1, none⟩ (.string ⟨#[]⟩) = x12 at HB hsz_x12 HP H4 H5 HS HW ⊢
      replace p0 := HP.out.1.at 0 _ rfl
      replace pf0 := HP.out.1.free 0
      replace p1 := HP.out.1.at 1 _ rfl
      replace pf1 := HP.out.1.free 1
      replace plt := HP.out.1.lt
      replace q0 := H4.out.1.at 0 _ rfl
      replace qf0 := H4.out.1.free 0
      replace q1 := H4.out.1.at 1 _ rfl
      replace qf1 := H4.out.1.free 1
      replace qlt := H4.out.1.lt
      replace t0 := H5.out.1.at 0 _ rfl
      replace tf0 := H5.out.1.free 0
      replace t1 := H5.out.1.at 1 _ rfl
      replace tf1 := H5.out.1.free 1
      replace t2 := H5.out.1.at 2 _ rfl
      replace tf2 := H5.out.1.free 2
      replace tlt := H5.out.1.lt
      replace s0 := HS.out.1.at 0 _ rfl
      replace sf0 := HS.out.1.free 0
      replace s1 := HS.out.1.at 1 _ rfl
      replace sf1 := HS.out.1.free 1
      replace s2 := HS.out.1.at 2 _ rfl
      replace sf2 := HS.out.1.free 2
      replace slt := HS.out.1.lt
      obtain ⟨hB', hL', hK'⟩ := home_store HB.out (by decide) H5.out 2 (.bool false)
      replace HP := hid (HP.out.keep (hK' 1 (by decide)))
      replace H4 := hid (H4.out.keep (hK' 2 (by decide)))
      replace HS := hid (HS.out.keep (hK' 4 (by decide)))
      replace HW := hid (HW.out.keep (hK' 5 (by decide)))
      replace H5 := hid hL'
      replace HB := hid hB'
      clear hB' hL' hK'
      have hsz_x13 : Hid ((x12.setCell ⟨(w.heap.size+2), 2, none⟩ (.bool false)).heap.size = x8.heap.size) := hid (by simp [hsz_x12.out])
      generalize x12.setCell ⟨(w.heap.size+2), 2, none⟩ (.bool false) = x13 at HB hsz_x13 HP H4 H5 HS HW ⊢
      replace p0 := HP.out.1.at 0 _ rfl
      replace pf0 := HP.out.1.free 0
      replace p1 := HP.out.1.at 1 _ rfl
      replace pf1 := HP.out.1.free 1
      replace plt := HP.out.1.lt
      replace q0 := H4.out.1.at 0 _ rfl
      replace qf0 := H4.out.1.free 0
      replace q1 := H4.out.1.at 1 _ rfl
      replace qf1 := H4.out.1.free 1
      replace qlt := H4.out.1.lt
      replace t0 := H5.out.1.at 0 _ rfl
      replace tf0 := H5.out.1.free 0
      replace t1 := H5.out.1.at 1 _ rfl
      replace tf1 := H5.out.1.free 1
      replace t2 := H5.out.1.at 2 _ rfl
      replace tf2 := H5.out.1.free 2
      replace tlt := H5.out.1.lt
      replace s0 := HS.out.1.at 0 _ rfl
      replace sf0 := HS.out.1.free 0
      replace s1 := HS.out.1.at 1 _ rfl
      replace sf1 := HS.out.1.free 1
      replace s2 := HS.out.1.at 2 _ rfl
      replace sf2 := HS.out.1.free 2
      replace slt := HS.out.1.lt
      obtain ⟨hB', hK'⟩ := home_drew HB.out
      replace HP := hid (HP.out.keep (hK' 1))
      replace H4 := hid (H4.out.keep (hK' 2))
      replace H5 := hid (H5.out.keep (hK' 3))
      replace HS := hid (HS.out.keep (hK' 4))
      replace HW := hid (HW.out.keep (hK' 5))
      replace HB := hid hB'
      clear hB' hK'
      replace p0 := HP.out.1.at 0 _ rfl
      replace pf0 := HP.out.1.free 0
      replace p1 := HP.out.1.at 1 _ rfl
      replace pf1 := HP.out.1.free 1
      replace plt := HP.out.1.lt
      replace q0 := H4.out.1.at 0 _ rfl
      replace qf0 := H4.out.1.free 0
      replace q1 := H4.out.1.at 1 _ rfl
      replace qf1 := H4.out.1.free 1
      replace qlt := H4.out.1.lt
      replace t0 := H5.out.1.at 0 _ rfl
      replace tf0 := H5.out.1.free 0
      replace t1 := H5.out.1.at 1 _ rfl
      replace tf1 := H5.out.1.free 1
      replace t2 := H5.out.1.at 2 _ rfl
      replace tf2 := H5.out.1.free 2
      replace tlt := H5.out.1.lt
      replace s0 := HS.out.1.at 0 _ rfl
      replace sf0 := HS.out.1.free 0
      replace s1 := HS.out.1.at 1 _ rfl
      replace sf1 := HS.out.1.free 1
      replace s2 := HS.out.1.at 2 _ rfl
      replace sf2 := HS.out.1.free 2
      replace slt := HS.out.1.lt
      go_wp2_with fail
      refine bodyPost_ret (v := .tuple #[.agg #[.int .i64 M, (.slice ab (bk ks key).length cb)], .agg #[.bool true, .string ⟨#[]⟩, .bool false]]) (by simp [results, Try.results27, go_sem, q0, q1, t0, t1, t2]) rfl ⟨_, rfl, HB.out.nil, ?_⟩
      exact HW.out.strs.mono fun k _ q => .inr (HB.out.newLim k (by omega))
    · have HD := hid (show decide (key ∈ ks) = false by simp [h1])
      by_cases h2 : M ≤ (ks.length : Int)
      · obtain ⟨x, r, hr⟩ : ∃ x r, ks = x :: r := by
          cases ks with
          | nil => simp at h2; omega
          | cons x r => exact ⟨x, r, rfl⟩
        rw [show lruStep M ks key = .agg #[.bool false, .string x, .bool true] by unfold lruStep stepV; rw [if_neg h0, if_neg h1, if_pos h2, hr]; simp, show lruReq M ks key = bk r key by unfold lruReq; rw [if_neg h0, if_neg h1, if_pos h2, hr]; rfl]
        have hrl : r.length + 1 = ks.length := by rw [hr]; rfl
        obtain ⟨g, off, rfl, _, _⟩ := Strs.get (k := 0) HV.out (by omega)
        have HX := hid (show ks[0]? = some x by rw [hr]; rfl)
        have hpos : (0 : Int) < (ks.length : Int) := by omega
        have hcp : (1 : Int) ≤ (cap : Int) := by omega
        have hln : (1 : Int) ≤ (ks.length : Int) := by omega
        have HT := hid (show ks.drop 1 = r by rw [hr]; rfl)
        clear h0 h1 hr
        obtain ⟨A, hA⟩ : ∃ A, (if cap = 1 then (some ⟨g, off, none⟩ : Option Addr) else some ⟨g, off + 1, none⟩) = A := ⟨_, rfl⟩
        have HTL := hid (show ∀ y, Strs y S (.slice (some ⟨g, off, none⟩) ks.length cap) ks → Strs y S (.slice A (ks.length - 1) (cap - 1)) r from fun y hy => HT.out ▸ hy.tail (by omega) hA)
        go_enter Try.func27, Try.ntmps27
        go_wp2_with fail
        obtain ⟨own1, hB', hL', hK'⟩ := home_alloc HB.out [.int .i64 M, .slice (some ⟨g, off, none⟩) ks.length cap] 42 1
        have HP := hid hL'
        replace HB := hid hB'
        clear hB' hL' hK'
        have hsz_x1 : Hid ((w.alloc (.cells [.int .i64 M, .slice (some ⟨g, off, none⟩) ks.length cap].toArray 42)).heap.size = w.heap.size + 1) := hid (by simp)
        generalize w.alloc (.cells [.int .i64 M, .slice (some ⟨g, off, none⟩) ks.length cap].toArray 42) = x1 at HB hsz_x1 HP ⊢
        obtain ⟨own2, hB', hL', hK'⟩ := home_alloc HB.out [.int .i64 0, .slice none 0 0] 42 2
        replace HP := hid (HP.out.keep (hK' 1))
        rw [hsz_x1.out] at hL'
        have H4 := hid hL'
        replace HB := hid hB'
        clear hB' hL' hK'
        have hsz_x2 : Hid ((x1.alloc (.cells [.int .i64 0, .slice none 0 0].toArray 42)).heap.size = w.heap.size + 2) := hid (by simp [hsz_x1.out])
        generalize x1.alloc (.cells [.int .i64 0, .slice none 0 0].toArray 42) = x2 at HB hsz_x2 HP H4 ⊢
        obtain ⟨own3, hB', hL', hK'⟩ := home_alloc HB.out [.bool false, .string ⟨#[]⟩, .bool false] 27 3
        replace HP := hid (HP.out.keep (hK' 1))
        replace H4 := hid (H4.out.keep (hK' 2))
        rw [hsz_x2.out] at hL'
        have H5 := hid hL'
        replace HB := hid hB'
        clear hB' hL' hK'
        have hsz_x3 : Hid ((x2.alloc (.cells [.bool false, .string ⟨#[]⟩, .bool false].toArray 27)).heap.size = w.heap.size + 3) := hid (by simp [hsz_x2.out])
        generalize x2.alloc (.cells [.bool false, .string ⟨#[]⟩, .bool false].toArray 27) = x3 at HB hsz_x3 HP H4 H5 ⊢
        obtain ⟨own4, hB', hL', hK'⟩ := home_alloc HB.out [.bool false, .string ⟨#[]⟩, .bool false] 27 4
        replace HP := hid (HP.out.keep (hK' 1))
        replace H4 := hid (H4.out.keep (hK' 2))
        replace H5 := hid (H5.out.keep (hK' 3))
        rw [hsz_x3.out] at hL'
        have HS := hid hL'
        replace HB := hid hB'
        clear hB' hL' hK'
        have hsz_x4 : Hid ((x3.alloc (.cells [.bool false, .string ⟨#[]⟩, .bool false].toArray 27)).heap.size = w.heap.size + 4) := hid (by simp [hsz_x3.out])
        generalize x3.alloc (.cells [.bool false, .string ⟨#[]⟩, .bool false].toArray 27) = x4 at HB hsz_x4 HP H4 H5 HS ⊢
        have p0 := HP.out.1.at 0 _ rfl
        have pf0 := HP.out.1.free 0
        have p1 := HP.out.1.at 1 _ rfl
        have pf1 := HP.out.1.free 1
        have plt := HP.out.1.lt
        have q0 := H4.out.1.at 0 _ rfl
        have qf0 := H4.out.1.free 0
        have q1 := H4.out.1.at 1 _ rfl
        have qf1 := H4.out.1.free 1
        have qlt := H4.out.1.lt
        have t0 := H5.out.1.at 0 _ rfl
        have tf0 := H5.out.1.free 0
        have t1 := H5.out.1.at 1 _ rfl
        have tf1 := H5.out.1.free 1
        have t2 := H5.out.1.at 2 _ rfl
        have tf2 := H5.out.1.free 2
        have tlt := H5.out.1.lt
        have s0 := HS.out.1.at 0 _ rfl
        have sf0 := HS.out.1.free 0
        have s1 := HS.out.1.at 1 _ rfl
        have sf1 := HS.out.1.free 1
        have s2 := HS.out.1.at 2 _ rfl
        have sf2 := HS.out.1.free 2
        have slt := HS.out.1.lt
        go_wp2_with fail
        have hct := (r_Has (HV.out.modNil HB.out.nil) key)
        with_reducible refine hct.mono ?_
        clear hct
        rintro e w' ⟨rfl, rfl⟩
        rw [HD.out]
        have pv := Strs.head (HV.out.modNil HB.out.nil) HX.out
        have pg := cell_lt (Strs.head HV.out HX.out)
        go_wp2_with fail
        obtain ⟨hB', hL', hK'⟩ := home_store HB.out (by decide) HS.out 0 (.bool false)
        replace HP := hid (HP.out.keep (hK' 1 (by decide)))
        replace H4 := hid (H4.out.keep (hK' 2 (by decide)))
        replace H5 := hid (H5.out.keep (hK' 3 (by decide)))
        replace HS := hid hL'
        replace HB := hid hB'
        clear hB' hL' hK'
        have hsz_x6 : Hid ((x4.setCell ⟨(w.heap.size+3), 0, none⟩ (.bool false)).heap.size = x4.heap.size) := hid (by simp)
        generalize x4.setCell ⟨(w.heap.size+3), 0, none⟩ (.bool false) = x6 at HB hsz_x6 HP H4 H5 HS ⊢
        replace p0 := HP.out.1.at 0 _ rfl
        replace pf0 := HP.out.1.free 0
        replace p1 := HP.out.1.at 1 _ rfl
        replace pf1 := HP.out.1.free 1
        replace plt := HP.out.1.lt
        replace q0 := H4.out.1.at 0 _ rfl
        replace qf0 := H4.out.1.free 0
        replace q1 := H4.out.1.at 1 _ rfl
        replace qf1 := H4.out.1.free 1
        replace qlt := H4.out.1.lt
        replace t0 := H5.out.1.at 0 _ rfl
        replace tf0 := H5.out.1.free 0
        replace t1 := H5.out.1.at 1 _ rfl
        replace tf1 := H5.out.1.free 1
        replace t2 := H5.out.1.at 2 _ rfl
        replace tf2 := H5.out.1.free 2
        replace tlt := H5.out.1.lt
        replace s0 := HS.out.1.at 0 _ rfl
        replace sf0 := HS.out.1.free 0
        replace s1 := HS.out.1.at 1 _ rfl
        replace sf1 := HS.out.1.free 1
        replace s2 := HS.out.1.at 2 _ rfl
        replace sf2 := HS.out.1.free 2
        replace slt := HS.out.1.lt
        obtain ⟨hB', hL', hK'⟩ := home_store HB.out (by decide) HS.out 1 (.string x)
        replace HP := hid (HP.out.keep (hK' 1 (by decide)))
        replace H4 := hid (H4.out.keep (hK' 2 (by decide)))
        replace H5 := hid (H5.out.keep (hK' 3 (by decide)))
        replace HS := hid hL'
        replace HB := hid hB'
        clear hB' hL' hK'
        have hsz_x7 : Hid ((x6.setCell ⟨(w.heap.size+3), 1, none⟩ (.string x)).heap.size = x4.heap.size) := hid (by simp [hsz_x6.out])
        generalize x6.setCell ⟨(w.heap.size+3), 1, none⟩ (.string x) = x7 at HB hsz_x7 HP H4 H5 HS ⊢
        replace p0 := HP.out.1.at 0 _ rfl
        replace pf0 := HP.out.1.free 0
        replace p1 := HP.out.1.at 1 _ rfl
        replace pf1 := HP.out.1.free 1
        replace plt := HP.out.1.lt
        replace q0 := H4.out.1.at 0 _ rfl
        replace qf0 := H4.out.1.free 0
        replace q1 := H4.out.1.at 1 _ rfl
        replace qf1 := H4.out.1.free 1
        replace qlt := H4.out.1.lt
        replace t0 := H5.out.1.at 0 _ rfl
        replace tf0 := H5.out.1.free 0
        replace t1 := H5.out.1.at 1 _ rfl
        replace tf1 := H5.out.1.free 1
        replace t2 := H5.out.1.at 2 _ rfl
        replace tf2 := H5.out.1.free 2
        replace tlt := H5.out.1.lt
        replace s0 := HS.out.1.at 0 _ rfl
        replace sf0 := HS.out.1.free 0
        replace s1 := HS.out.1.at 1 _ rfl
        replace sf1 := HS.out.1.free 1
        replace s2 := HS.out.1.at 2 _ rfl
        replace sf2 := HS.out.1.free 2
        replace slt := HS.out.1.lt
        obtain ⟨hB', hL', hK'⟩ := home_store HB.out (by decide) HS.out 2 (.bool true)
        replace HP := hid (HP.out.keep (hK' 1 (by decide)))
        replace H4 := hid (H4.out.keep (hK' 2 (by decide)))
        replace H5 := hid (H5.out.keep (hK' 3 (by decide)))
        replace HS := hid hL'
        replace HB := hid hB'
        clear hB' hL' hK'
        have hsz_x8 : Hid ((x7.setCell ⟨(w.heap.size+3), 2, none⟩ (.bool true)).heap.size = x4.heap.size) := hid (by simp [hsz_x7.out])
        generalize x7.setCell ⟨(w.heap.size+3), 2, none⟩ (.bool true) = x8 at HB hsz_x8 HP H4 H5 HS ⊢
        replace p0 := HP.out.1.at 0 _ rfl
        replace pf0 := HP.out.1.free 0
        replace p1 := HP.out.1.at 1 _ rfl
        replace pf1 := HP.out.1.free 1
        replace plt := HP.out.1.lt
        replace q0 := H4.out.1.at 0 _ rfl
        replace qf0 := H4.out.1.free 0
        replace q1 := H4.out.1.at 1 _ rfl
        replace qf1 := H4.out.1.free 1
        replace qlt := H4.out.1.lt
        replace t0 := H5.out.1.at 0 _ rfl
        replace tf0 := H5.out.1.free 0
        replace t1 := H5.out.1.at 1 _ rfl
        replace tf1 := H5.out.1.free 1
        replace t2 := H5.out.1.at 2 _ rfl
        replace tf2 := H5.out.1.free 2
        replace tlt := H5.out.1.lt
        replace s0 := HS.out.1.at 0 _ rfl
        replace sf0 := HS.out.1.free 0
        replace s1 := HS.out.1.at 1 _ rfl
        replace sf1 := HS.out.1.free 1
        replace s2 := HS.out.1.at 2 _ rfl
        replace sf2 := HS.out.1.free 2
        replace slt := HS.out.1.lt
        obtain ⟨hB', hL', hK'⟩ := home_store HB.out (by decide) HP.out 1 (.slice A (ks.length - 1) (cap - 1))
        replace H4 := hid (H4.out.keep (hK' 2 (by decide)))
        replace H5 := hid (H5.out.keep (hK' 3 (by decide)))
        replace HS := hid (HS.out.keep (hK' 4 (by decide)))
        replace HP := hid hL'
        replace HB := hid hB'
        clear hB' hL' hK'
        have hsz_x9 : Hid ((x8.setCell ⟨w.heap.size, 1, none⟩ (.slice A (ks.length - 1) (cap - 1))).heap.size = x4.heap.size) := hid (by simp [hsz_x8.out])
        generalize x8.setCell ⟨w.heap.size, 1, none⟩ (.slice A (ks.length - 1) (cap - 1)) = x9 at HB hsz_x9 HP H4 H5 HS ⊢
        replace p0 := HP.out.1.at 0 _ rfl
        replace pf0 := HP.out.1.free 0
        replace p1 := HP.out.1.at 1 _ rfl
        replace pf1 := HP.out.1.free 1
        replace plt := HP.out.1.lt
        replace q0 := H4.out.1.at 0 _ rfl
        replace qf0 := H4.out.1.free 0
        replace q1 := H4.out.1.at 1 _ rfl
        replace qf1 := H4.out.1.free 1
        replace qlt := H4.out.1.lt
        replace t0 := H5.out.1.at 0 _ rfl
        replace tf0 := H5.out.1.free 0
        replace t1 := H5.out.1.at 1 _ rfl
        replace tf1 := H5.out.1.free 1
        replace t2 := H5.out.1.at 2 _ rfl
        replace tf2 := H5.out.1.free 2
        replace tlt := H5.out.1.lt
        replace s0 := HS.out.1.at 0 _ rfl
        replace sf0 := HS.out.1.free 0
        replace s1 := HS.out.1.at 1 _ rfl
        replace sf1 := HS.out.1.free 1
        replace s2 := HS.out.1.at 2 _ rfl
        replace sf2 := HS.out.1.free 2
        replace slt := HS.out.1.lt
        clear hA pv pg
        go_wp2_with fail
        have hct := step_make HB.out 5 (r_Back (HTL.out _ (HV.out.modNil HB.out.nil)) (by omega) key)
        with_reducible refine hct.mono ?_
        clear hct
        rintro e x10 ⟨vb, own10, rfl, hB', hL', hK'⟩
        replace HP := hid (HP.out.keep (hK' 1))
        replace H4 := hid (H4.out.keep (hK' 2))
        replace H5 := hid (H5.out.keep (hK' 3))
        replace HS := hid (HS.out.keep (hK' 4))
        have HW := hid hL'
        replace HB := hid hB'
        clear hB' hL' hK'
        replace p0 := HP.out.1.at 0 _ rfl
        replace pf0 := HP.out.1.free 0
        replace p1 := HP.out.1.at 1 _ rfl
        replace pf1 := HP.out.1.free 1
        replace plt := HP.out.1.lt
        replace q0 := H4.out.1.at 0 _ rfl
        replace qf0 := H4.out.1.free 0
        replace q1 := H4.out.1.at 1 _ rfl
        replace qf1 := H4.out.1.free 1
        replace qlt := H4.out.1.lt
        replace t0 := H5.out.1.at 0 _ rfl
        replace tf0 := H5.out.1.free 0
        replace t1 := H5.out.1.at 1 _ rfl
        replace tf1 := H5.out.1.free 1
        replace t2 := H5.out.1.at 2 _ rfl
        replace tf2 := H5.out.1.free 2
        replace tlt := H5.out.1.lt
        replace s0 := HS.out.1.at 0 _ rfl
        replace sf0 := HS.out.1.free 0
        replace s1 := HS.out.1.at 1 _ rfl
        replace sf1 := HS.out.1.free 1
        replace s2 := HS.out.1.at 2 _ rfl
        replace sf2 := HS.out.1.free 2
        replace slt := HS.out.1.lt
        obtain ⟨ab, cb, rfl, _, _⟩ := HW.out.len
        go_wp2_with fail
        obtain ⟨hB', hL', hK'⟩ := home_store HB.out (by decide) HP.out 1 (.slice ab (bk r key).length cb)
        replace H4 := hid (H4.out.keep (hK' 2 (by decide)))
        replace H5 := hid (H5.out.keep (hK' 3 (by decide)))
        replace HS := hid (HS.out.keep (hK' 4 (by decide)))
        replace HW := hid (HW.out.keep (hK' 5 (by decide)))
        replace HP := hid hL'
        replace HB := hid hB'
        clear hB' hL' hK'
        have hsz_x11 : Hid ((x10.setCell ⟨w.heap.size, 1, none⟩ (.slice ab (bk r key).length cb)).heap.size = x10.heap.size) := hid (by simp)
        generalize x10.setCell ⟨w.heap.size, 1, none⟩ (.slice ab (bk r key).length cb) = x11 at HB hsz_x11 HP H4 H5 HS HW ⊢
        replace p0 := HP.out.1.at 0 _ rfl
        replace pf0 := HP.out.1.free 0
        replace p1 := HP.out.1.at 1 _ rfl
        replace pf1 := HP.out.1.free 1
        replace plt := HP.out.1.lt
        replace q0 := H4.out.1.at 0 _ rfl
        replace qf0 := H4.out.1.free 0
        replace q1 := H4.out.1.at 1 _ rfl
        replace qf1 := H4.out.1.free 1
        replace qlt := H4.out.1.lt
        replace t0 := H5.out.1.at 0 _ rfl
        replace tf0 := H5.out.1.free 0
        replace t1 := H5.out.1.at 1 _ rfl
        replace tf1 := H5.out.1.free 1
        replace t2 := H5.out.1.at 2 _ rfl
        replace tf2 := H5.out.1.free 2
        replace tlt := H5.out.1.lt
        replace s0 := HS.out.1.at 0 _ rfl
        replace sf0 := HS.out.1.free 0
        replace s1 := HS.out.1.at 1 _ rfl
        replace sf1 := HS.out.1.free 1
        replace s2 := HS.out.1.at 2 _ rfl
        replace sf2 := HS.out.1.free 2
        replace slt := HS.out.1.lt
        go_region
        obtain ⟨hB', hL', hK'⟩ := home_store HB.out (by decide) H4.out 0 (.int .i64 M)
        replace HP := hid (HP.out.keep (hK' 1 (by decide)))
        replace H5 := hid (H5.out.keep (hK' 3 (by decide)))
        replace HS := hid (HS.out.keep (hK' 4 (by decide)))
        replace HW := hid (HW.out.keep (hK' 5 (by decide)))
        replace H4 := hid hL'
        replace HB := hid hB'
        clear hB' hL' hK'
        have hsz_x12 : Hid ((x11.setCell ⟨(w.heap.size+1), 0, none⟩ (.int .i64 M)).heap.size = x11.heap.size) := hid (by simp)
        generalize x11.setCell ⟨(w.heap.size+1), 0, none⟩ (.int .i64 M) = x12 at HB hsz_x12 HP H4 H5 HS HW ⊢
        replace p0 := HP.out.1.at 0 _ rfl
        replace pf0 := HP.out.1.free 0
        replace p1 := HP.out.1.at 1 _ rfl
        replace pf1 := HP.out.1.free 1
        replace plt := HP.out.1.lt
        replace q0 := H4.out.1.at 0 _ rfl
        replace qf0 := H4.out.1.free 0
        replace q1 := H4.out.1.at 1 _ rfl
        replace qf1 := H4.out.1.free 1
        replace qlt := H4.out.1.lt
        replace t0 := H5.out.1.at 0 _ rfl
        replace tf0 := H5.out.1.free 0
        replace t1 := H5.out.1.at 1 _ rfl
        replace tf1 := H5.out.1.free 1
        replace t2 := H5.out.1.at 2 _ rfl
        replace tf2 := H5.out.1.free 2
        replace tlt := H5.out.1.lt
        replace s0 := HS.out.1.at 0 _ rfl
        replace sf0 := HS.out.1.free 0
        replace s1 := HS.out.1.at 1 _ rfl
        replace sf1 := HS.out.1.free 1
        replace s2 := HS.out.1.at 2 _ rfl
        replace sf2 := HS.out.1.free 2
        replace slt := HS.out.1.lt
        obtain ⟨hB', hL', hK'⟩ := home_store HB.out (by decide) H4.out 1 (.slice ab (bk r key).length cb)
        replace HP := hid (HP.out.keep (hK' 1 (by decide)))
        replace H5 := hid (H5.out.keep (hK' 3 (by decide)))
        replace HS := hid (HS.out.keep (hK' 4 (by decide)))
        replace HW := hid (HW.out.keep (hK' 5 (by decide)))
        replace H4 := hid hL'
        replace HB := hid hB'
        clear hB' hL' hK'
        have hsz_x13 : Hid ((x12.setCell ⟨(w.heap.size+1), 1, none⟩ (.slice ab (bk r key).length cb)).heap.size = x11.heap.size) := hid (by simp [hsz_x12.out])
        generalize x12.setCell ⟨(w.heap.size+1), 1, none⟩ (.slice ab (bk r key).length cb) = x13 at HB hsz_x13 HP H4 H5 HS HW ⊢
        replace p0 := HP.out.1.at 0 _ rfl
        replace pf0 := HP.out.1.free 0
        replace p1 := HP.out.1.at 1 _ rfl
        replace pf1 := HP.out.1.free 1
        replace plt := HP.out.1.lt
        replace q0 := H4.out.1.at 0 _ rfl
        replace qf0 := H4.out.1.free 0
        replace q1 := H4.out.1.at 1 _ rfl
        replace qf1 := H4.out.1.free 1
        replace qlt := H4.out.1.lt
        replace t0 := H5.out.1.at 0 _ rfl
        replace tf0 := H5.out.1.free 0
        replace t1 := H5.out.1.at 1 _ rfl
        replace tf1 := H5.out.1.free 1
        replace t2 := H5.out.1.at 2 _ rfl
        replace tf2 := H5.out.1.free 2
        replace tlt := H5.out.1.lt
        replace s0 := HS.out.1.at 0 _ rfl
        replace sf0 := HS.out.1.free 0
        replace s1 := HS.out.1.at 1 _ rfl
        replace sf1 := HS.out.1.free 1
        replace s2 := HS.out.1.at 2 _ rfl
        replace sf2 := HS.out.1.free 2
        replace slt := HS.out.1.lt
        obtain ⟨hB', hL', hK'⟩ := home_store HB.out (by decide) H5.out 0 (.bool false)
        replace HP := hid (HP.out.keep (hK' 1 (by decide)))
        replace H4 := hid (H4.out.keep (hK' 2 (by decide)))
        replace HS := hid (HS.out.keep (hK' 4 (by decide)))
        replace HW := hid (HW.out.keep (hK' 5 (by decide)))
        replace H5 := hid hL'
        replace HB := hid hB'
        clear hB' hL' hK'
        have hsz_x14 : Hid ((x13.setCell ⟨(w.heap.size+2), 0, none⟩ (.bool false)).heap.size = x11.heap.size) := hid (by simp [hsz_x13.out])
        generalize x13.setCell ⟨(w.heap.size+2), 0, none⟩ (.bool false) = x14 at HB hsz_x14 HP H4 H5 HS HW ⊢
        replace p0 := HP.out.1.at 0 _ rfl
        replace pf0 := HP.out.1.free 0
        replace p1 := HP.out.1.at 1 _ rfl
        replace pf1 := HP.out.1.free 1
        replace plt := HP.out.1.lt
        replace q0 := H4.out.1.at 0 _ rfl
        replace qf0 := H4.out.1.free 0
        replace q1 := H4.out.1.at 1 _ rfl
        replace qf1 := H4.out.1.free 1
        replace qlt := H4.out.1.lt
        replace t0 := H5.out.1.at 0 _ rfl
        replace tf0 := H5.out.1.free 0
        replace t1 := H5.out.1.at 1 _ rfl
        replace tf1 := H5.out.1.free 1
        replace t2 := H5.out.1.at 2 _ rfl
        replace tf2 := H5.out.1.free 2
        replace tlt := H5.out.1.lt
        replace s0 := HS.out.1.at 0 _ rfl
        replace sf0 := HS.out.1.free 0
        replace s1 := HS.out.1.at 1 _ rfl
        replace sf1 := HS.out.1.free 1
        replace s2 := HS.out.1.at 2 _ rfl
        replace sf2 := HS.out.1.free 2
        replace slt := HS.out.1.lt
        obtain ⟨hB', hL', hK'⟩ := home_store HB.out (by decide) H5.out 1 (.string x)
        replace HP := hid (HP.out.keep (hK' 1 (by decide)))
        replace H4 := hid (H4.out.keep (hK' 2 (by decide)))
        replace HS := hid (HS.out.keep (hK' 4 (by decide)))
        replace HW := hid (HW.out.keep (hK' 5 (by decide)))
        replace H5 := hid hL'
        replace HB := hid hB'
        clear hB' hL' hK'
        have hsz_x15 : Hid ((x14.setCell ⟨(w.heap.size+2), 1, none⟩ (.string x)).heap.size = x11.heap.size) := hid (by simp [hsz_x14.out])
        generalize x14.setCell ⟨(w.heap.size+2), 1, none⟩ (.string x) = x15 at HB hsz_x15 HP H4 H5 HS HW ⊢
        replace p0 := HP.out.1.at 0 _ rfl
        replace pf0 := HP.out.1.free 0
        replace p1 := HP.out.1.at 1 _ rfl
        replace pf1 := HP.out.1.free 1
        replace plt := HP.out.1.lt
        replace q0 := H4.out.1.at 0 _ rfl
        replace qf0 := H4.out.1.free 0
        replace q1 := H4.out.1.at 1 _ rfl
        replace qf1 := H4.out.1.free 1
        replace qlt := H4.out.1.lt
        replace t0 := H5.out.1.at 0 _ rfl
        replace tf0 := H5.out.1.free 0
        replace t1 := H5.out.1.at 1 _ rfl
        replace tf1 := H5.out.1.free 1
        replace t2 := H5.out.1.at 2 _ rfl
        replace tf2 := H5.out.1.free 2
        replace tlt := H5.out.1.lt
        replace s0 := HS.out.1.at 0 _ rfl
        replace sf0 := HS.out.1.free 0
        replace s1 := HS.out.1.at 1 _ rfl
        replace sf1 := HS.out.1.free 1
        replace s2 := HS.out.1.at 2 _ rfl
        replace sf2 := HS.out.1.free 2
        replace slt := HS.out.1.lt
        obtain ⟨hB', hL', hK'⟩ := home_store HB.out (by decide) H5.out 2 (.bool true)
        replace HP := hid (HP.out.keep (hK' 1 (by decide)))
        replace H4 := hid (H4.out.keep (hK' 2 (by decide)))
        replace HS := hid (HS.out.keep (hK' 4 (by decide)))
        replace HW := hid (HW.out.keep (hK' 5 (by decide)))
        replace H5 := hid hL'
        replace HB := hid hB'
        clear hB' hL' hK'
        have hsz_x16 : Hid ((x15.setCell ⟨(w.heap.size+2), 2, none⟩ (.bool true)).heap.size = x11.heap.size) := hid (by simp [hsz_x15.out])
        generalize x15.setCell ⟨(w.heap.size+2), 2, none⟩ (.bool true) = x16 at HB hsz_x16 HP H4 H5 HS HW ⊢
        replace p0 := HP.out.1.at 0 _ rfl
        replace pf0 := HP.out.1.free 0
        replace p1 := HP.out.1.at 1 _ rfl
        replace pf1 := HP.out.1.free 1
        replace plt := HP.out.1.lt
        replace q0 := H4.out.1.at 0 _ rfl
        replace qf0 := H4.out.1.free 0
        replace q1 := H4.out.1.at 1 _ rfl
        replace qf1 := H4.out.1.free 1
        replace qlt := H4.out.1.lt
        replace t0 := H5.out.1.at 0 _ rfl
        replace tf0 := H5.out.1.free 0
        replace t1 := H5.out.1.at 1 _ rfl
        replace tf1 := H5.out.1.free 1
        replace t2 := H5.out.1.at 2 _ rfl
        replace tf2 := H5.out.1.free 2
        replace tlt := H5.out.1.lt
        replace s0 := HS.out.1.at 0 _ rfl
        replace sf0 := HS.out.1.free 0
        replace s1 := HS.out.1.at 1 _ rfl
        replace sf1 := HS.out.1.free 1
        replace s2 := HS.out.1.at 2 _ rfl
        replace sf2 := HS.out.1.free 2
        replace slt := HS.out.1.lt
        obtain ⟨hB', hK'⟩ := home_drew HB.out
        replace HP := hid (HP.out.keep (hK' 1))
        replace H4 := hid (H4.out.keep (hK' 2))
        replace H5 := hid (H5.out.keep (hK' 3))
        replace HS := hid (HS.out.keep (hK' 4))
        replace HW := hid (HW.out.keep (hK' 5))
        replace HB := hid hB'
        clear hB' hK'
        replace p0 := HP.out.1.at 0 _ rfl
        replace pf0 := HP.out.1.free 0
        replace p1 := HP.out.1.at 1 _ rfl
        replace pf1 := HP.out.1.free 1
        replace plt := HP.out.1.lt
        replace q0 := H4.out.1.at 0 _ rfl
        replace qf0 := H4.out.1.free 0
        replace q1 := H4.out.1.at 1 _ rfl
        replace qf1 := H4.out.1.free 1
        replace qlt := H4.out.1.lt
        replace t0 := H5.out.1.at 0 _ rfl
        replace tf0 := H5.out.1.free 0
        replace t1 := H5.out.1.at 1 _ rfl
        replace tf1 := H5.out.1.free 1
        replace t2 := H5.out.1.at 2 _ rfl
        replace tf2 := H5.out.1.free 2
        replace tlt := H5.out.1.lt
        replace s0 := HS.out.1.at 0 _ rfl
        replace sf0 := HS.out.1.free 0
        replace s1 := HS.out.1.at 1 _ rfl
        replace sf1 := HS.out.1.free 1
        replace s2 := HS.out.1.at 2 _ rfl
        replace sf2 := HS.out.1.free 2
        replace slt := HS.out.1.lt
        go_wp2_with fail
        refine bodyPost_ret (v := .tuple #[.agg #[.int .i64 M, (.slice ab (bk r key).length cb)], .agg #[.bool false, .string x, .bool true]]) (by simp [results, Try.results27, go_sem, q0, q1, t0, t1, t2]) rfl ⟨_, rfl, HB.out.nil, ?_⟩
        exact HW.out.strs.mono fun k _ q => .inr (HB.out.newLim k (by omega))
      · rw [show lruStep M ks key = .agg #[.bool false, .string ⟨#[]⟩, .bool false] by unfold lruStep stepV; rw [if_neg h0, if_neg h1, if_neg h2], show lruReq M ks key = bk ks key by unfold lruReq; rw [if_neg h0, if_neg h1, if_neg h2]]
        clear h0 h1
        have h2' : (ks.length : Int) < M := by omega
        go_enter Try.func27, Try.ntmps27
        go_wp2_with fail
        obtain ⟨own1, hB', hL', hK'⟩ := home_alloc HB.out [.int .i64 M, .slice a ks.length cap] 42 1
        have HP := hid hL'
        replace HB := hid hB'
        clear hB' hL' hK'
        have hsz_x1 : Hid ((w.alloc (.cells [.int .i64 M, .slice a ks.length cap].toArray 42)).heap.size = w.heap.size + 1) := hid (by simp)
        generalize w.alloc (.cells [.int .i64 M, .slice a ks.length cap].toArray 42) = x1 at HB hsz_x1 HP ⊢
        obtain ⟨own2, hB', hL', hK'⟩ := home_alloc HB.out [.int .i64 0, .slice none 0 0] 42 2
        replace HP := hid (HP.out.keep (hK' 1))
        rw [hsz_x1.out] at hL'
        have H4 := hid hL'
        replace HB := hid hB'
        clear hB' hL' hK'
        have hsz_x2 : Hid ((x1.alloc (.cells [.int .i64 0, .slice none 0 0].toArray 42)).heap.size = w.heap.size + 2) := hid (by simp [hsz_x1.out])
        generalize x1.alloc (.cells [.int .i64 0, .slice none 0 0].toArray 42) = x2 at HB hsz_x2 HP H4 ⊢
        obtain ⟨own3, hB', hL', hK'⟩ := home_alloc HB.out [.bool false, .string ⟨#[]⟩, .bool false] 27 3
        replace HP := hid (HP.out.keep (hK' 1))
        replace H4 := hid (H4.out.keep (hK' 2))
        rw [hsz_x2.out] at hL'
        have H5 := hid hL'
        replace HB := hid hB'
        clear hB' hL' hK'
        have hsz_x3 : Hid ((x2.alloc (.cells [.bool false, .string ⟨#[]⟩, .bool false].toArray 27)).heap.size = w.heap.size + 3) := hid (by simp [hsz_x2.out])
        generalize x2.alloc (.cells [.bool false, .string ⟨#[]⟩, .bool false].toArray 27) = x3 at HB hsz_x3 HP H4 H5 ⊢
        obtain ⟨own4, hB', hL', hK'⟩ := home_alloc HB.out [.bool false, .string ⟨#[]⟩, .bool false] 27 4
        replace HP := hid (HP.out.keep (hK' 1))
        replace H4 := hid (H4.out.keep (hK' 2))
        replace H5 := hid (H5.out.keep (hK' 3))
        rw [hsz_x3.out] at hL'
        have HS := hid hL'
        replace HB := hid hB'
        clear hB' hL' hK'
        have hsz_x4 : Hid ((x3.alloc (.cells [.bool false, .string ⟨#[]⟩, .bool false].toArray 27)).heap.size = w.heap.size + 4) := hid (by simp [hsz_x3.out])
        generalize x3.alloc (.cells [.bool false, .string ⟨#[]⟩, .bool false].toArray 27) = x4 at HB hsz_x4 HP H4 H5 HS ⊢
        have p0 := HP.out.1.at 0 _ rfl
        have pf0 := HP.out.1.free 0
        have p1 := HP.out.1.at 1 _ rfl
        have pf1 := HP.out.1.free 1
        have plt := HP.out.1.lt
        have q0 := H4.out.1.at 0 _ rfl
        have qf0 := H4.out.1.free 0
        have q1 := H4.out.1.at 1 _ rfl
        have qf1 := H4.out.1.free 1
        have qlt := H4.out.1.lt
        have t0 := H5.out.1.at 0 _ rfl
        have tf0 := H5.out.1.free 0
        have t1 := H5.out.1.at 1 _ rfl
        have tf1 := H5.out.1.free 1
        have t2 := H5.out.1.at 2 _ rfl
        have tf2 := H5.out.1.free 2
        have tlt := H5.out.1.lt
        have s0 := HS.out.1.at 0 _ rfl
        have sf0 := HS.out.1.free 0
        have s1 := HS.out.1.at 1 _ rfl
        have sf1 := HS.out.1.free 1
        have s2 := HS.out.1.at 2 _ rfl
        have sf2 := HS.out.1.free 2
        have slt := HS.out.1.lt
        go_wp2_with fail
        have hct := (r_Has (HV.out.modNil HB.out.nil) key)
        with_reducible refine hct.mono ?_
        clear hct
        rintro e w' ⟨rfl, rfl⟩
        rw [HD.out]
        go_wp2_with fail
        obtain ⟨hB', hL', hK'⟩ := home_store HB.out (by decide) HS.out 0 (.bool false)
        replace HP := hid (HP.out.keep (hK' 1 (by decide)))
        replace H4 := hid (H4.out.keep (hK' 2 (by decide)))
        replace H5 := hid (H5.out.keep (hK' 3 (by decide)))
        replace HS := hid hL'
        replace HB := hid hB'
        clear hB' hL' hK'
        have hsz_x6 : Hid ((x4.setCell ⟨(w.heap.size+3), 0, none⟩ (.bool false)).heap.size = x4.heap.size) := hid (by simp)
        generalize x4.setCell ⟨(w.heap.size+3), 0, none⟩ (.bool false) = x6 at HB hsz_x6 HP H4 H5 HS ⊢
        replace p0 := HP.out.1.at 0 _ rfl
        replace pf0 := HP.out.1.free 0
        replace p1 := HP.out.1.at 1 _ rfl
        replace pf1 := HP.out.1.free 1
        replace plt := HP.out.1.lt
        replace q0 := H4.out.1.at 0 _ rfl
        replace qf0 := H4.out.1.free 0
        replace q1 := H4.out.1.at 1 _ rfl
        replace qf1 := H4.out.1.free 1
        replace qlt := H4.out.1.lt
        replace t0 := H5.out.1.at 0 _ rfl
        replace tf0 := H5.out.1.free 0
        replace t1 := H5.out.1.at 1 _ rfl
        replace tf1 := H5.out.1.free 1
        replace t2 := H5.out.1.at 2 _ rfl
        replace tf2 := H5.out.1.free 2
        replace tlt := H5.out.1.lt
        replace s0 := HS.out.1.at 0 _ rfl
        replace sf0 := HS.out.1.free 0
        replace s1 := HS.out.1.at 1 _ rfl
        replace sf1 := HS.out.1.free 1
        replace s2 := HS.out.1.at 2 _ rfl
        replace sf2 := HS.out.1.free 2
        replace slt := HS.out.1.lt
        go_wp2_with fail
        have hct := step_make HB.out 5 (r_Back (HV.out.modNil HB.out.nil) (by omega) key)
        with_reducible refine hct.mono ?_
        clear hct
        rintro e x7 ⟨vb, own7, rfl, hB', hL', hK'⟩
        replace HP := hid (HP.out.keep (hK' 1))
        replace H4 := hid (H4.out.keep (hK' 2))
        replace H5 := hid (H5.out.keep (hK' 3))
        replace HS := hid (HS.out.keep (hK' 4))
        have HW := hid hL'
        replace HB := hid hB'
        clear hB' hL' hK'
        replace p0 := HP.out.1.at 0 _ rfl
        replace pf0 := HP.out.1.free 0
        replace p1 := HP.out.1.at 1 _ rfl
        replace pf1 := HP.out.1.free 1
        replace plt := HP.out.1.lt
        replace q0 := H4.out.1.at 0 _ rfl
        replace qf0 := H4.out.1.free 0
        replace q1 := H4.out.1.at 1 _ rfl
        replace qf1 := H4.out.1.free 1
        replace qlt := H4.out.1.lt
        replace t0 := H5.out.1.at 0 _ rfl
        replace tf0 := H5.out.1.free 0
        replace t1 := H5.out.1.at 1 _ rfl
        replace tf1 := H5.out.1.free 1
        replace t2 := H5.out.1.at 2 _ rfl
        replace tf2 := H5.out.1.free 2
        replace tlt := H5.out.1.lt
        replace s0 := HS.out.1.at 0 _ rfl
        replace sf0 := HS.out.1.free 0
        replace s1 := HS.out.1.at 1 _ rfl
        replace sf1 := HS.out.1.free 1
        replace s2 := HS.out.1.at 2 _ rfl
        replace sf2 := HS.out.1.free 2
        replace slt := HS.out.1.lt
        obtain ⟨ab, cb, rfl, _, _⟩ := HW.out.len
        go_wp2_with fail
        obtain ⟨hB', hL', hK'⟩ := home_store HB.out (by decide) HP.out 1 (.slice ab (bk ks key).length cb)
        replace H4 := hid (H4.out.keep (hK' 2 (by decide)))
        replace H5 := hid (H5.out.keep (hK' 3 (by decide)))
        replace HS := hid (HS.out.keep (hK' 4 (by decide)))
        replace HW := hid (HW.out.keep (hK' 5 (by decide)))
        replace HP := hid hL'
        replace HB := hid hB'
        clear hB' hL' hK'
        have hsz_x8 : Hid ((x7.setCell ⟨w.heap.size, 1, none⟩ (.slice ab (bk ks key).length cb)).heap.size = x7.heap.size) := hid (by simp)
        generalize x7.setCell ⟨w.heap.size, 1, none⟩ (.slice ab (bk ks key).length cb) = x8 at HB hsz_x8 HP H4 H5 HS HW ⊢
        replace p0 := HP.out.1.at 0 _ rfl
        replace pf0 := HP.out.1.free 0
        replace p1 := HP.out.1.at 1 _ rfl
        replace pf1 := HP.out.1.free 1
        replace plt := HP.out.1.lt
        replace q0 := H4.out.1.at 0 _ rfl
        replace qf0 := H4.out.1.free 0
        replace q1 := H4.out.1.at 1 _ rfl
        replace qf1 := H4.out.1.free 1
        replace qlt := H4.out.1.lt
        replace t0 := H5.out.1.at 0 _ rfl
        replace tf0 := H5.out.1.free 0
        replace t1 := H5.out.1.at 1 _ rfl
        replace tf1 := H5.out.1.free 1
        replace t2 := H5.out.1.at 2 _ rfl
        replace tf2 := H5.out.1.free 2
        replace tlt := H5.out.1.lt
        replace s0 := HS.out.1.at 0 _ rfl
        replace sf0 := HS.out.1.free 0
        replace s1 := HS.out.1.at 1 _ rfl
        replace sf1 := HS.out.1.free 1
        replace s2 := HS.out.1.at 2 _ rfl
        replace sf2 := HS.out.1.free 2
        replace slt := HS.out.1.lt
        go_region
        obtain ⟨hB', hL', hK'⟩ := home_store HB.out (by decide) H4.out 0 (.int .i64 M)
        replace HP := hid (HP.out.keep (hK' 1 (by decide)))
        replace H5 := hid (H5.out.keep (hK' 3 (by decide)))
        replace HS := hid (HS.out.keep (hK' 4 (by decide)))
        replace HW := hid (HW.out.keep (hK' 5 (by decide)))
        replace H4 := hid hL'
        replace HB := hid hB'
        clear hB' hL' hK'
        have hsz_x9 : Hid ((x8.setCell ⟨(w.heap.size+1), 0, none⟩ (.int .i64 M)).heap.size = x8.heap.size) := hid (by simp)
        generalize x8.setCell ⟨(w.heap.size+1), 0, none⟩ (.int .i64 M) = x9 at HB hsz_x9 HP H4 H5 HS HW ⊢
        replace p0 := HP.out.1.at 0 _ rfl
        replace pf0 := HP.out.1.free 0
        replace p1 := HP.out.1.at 1 _ rfl
        replace pf1 := HP.out.1.free 1
        replace plt := HP.out.1.lt
        replace q0 := H4.out.1.at 0 _ rfl
        replace qf0 := H4.out.1.free 0
        replace q1 := H4.out.1.at 1 _ rfl
        replace qf1 := H4.out.1.free 1
        replace qlt := H4.out.1.lt
        replace t0 := H5.out.1.at 0 _ rfl
        replace tf0 := H5.out.1.free 0
        replace t1 := H5.out.1.at 1 _ rfl
        replace tf1 := H5.out.1.free 1
        replace t2 := H5.out.1.at 2 _ rfl
        replace tf2 := H5.out.1.free 2
        replace tlt := H5.out.1.lt
        replace s0 := HS.out.1.at 0 _ rfl
        replace sf0 := HS.out.1.free 0
        replace s1 := HS.out.1.at 1 _ rfl
        replace sf1 := HS.out.1.free 1
        replace s2 := HS.out.1.at 2 _ rfl
        replace sf2 := HS.out.1.free 2
        replace slt := HS.out.1.lt
        obtain ⟨hB', hL', hK'⟩ := home_store HB.out (by decide) H4.out 1 (.slice ab (bk ks key).length cb)
        replace HP := hid (HP.out.keep (hK' 1 (by decide)))
        replace H5 := hid (H5.out.keep (hK' 3 (by decide)))
        replace HS := hid (HS.out.keep (hK' 4 (by decide)))
        replace HW := hid (HW.out.keep (hK' 5 (by decide)))
        replace H4 := hid hL'
        replace HB := hid hB'
        clear hB' hL' hK'
        have hsz_x10 : Hid ((x9.setCell ⟨(w.heap.size+1), 1, none⟩ (.slice ab (bk ks key).length cb)).heap.size = x8.heap.size) := hid (by simp [hsz_x9.out])
        generalize x9.setCell ⟨(w.heap.size+1), 1, none⟩ (.slice ab (bk ks key).length cb) = x10 at HB hsz_x10 HP H4 H5 HS HW ⊢
        replace p0 := HP.out.1.at 0 _ rfl
        replace pf0 := HP.out.1.free 0
        replace p1 := HP.out.1.at 1 _ rfl
        replace pf1 := HP.out.1.free 1
        replace plt := HP.out.1.lt
        replace q0 := H4.out.1.at 0 _ rfl
        replace qf0 := H4.out.1.free 0
        replace q1 := H4.out.1.at 1 _ rfl
        replace qf1 := H4.out.1.free 1
        replace qlt := H4.out.1.lt
        replace t0 := H5.out.1.at 0 _ rfl
        replace tf0 := H5.out.1.free 0
        replace t1 := H5.out.1.at 1 _ rfl
        replace tf1 := H5.out.1.free 1
        replace t2 := H5.out.1.at 2 _ rfl
        replace tf2 := H5.out.1.free 2
        replace tlt := H5.out.1.lt
        replace s0 := HS.out.1.at 0 _ rfl
        replace sf0 := HS.out.1.free 0
        replace s1 := HS.out.1.at 1 _ rfl
        replace sf1 := HS.out.1.free 1
        replace s2 := HS.out.1.at 2 _ rfl
        replace sf2 := HS.out.1.free 2
        replace slt := HS.out.1.lt
        obtain ⟨hB', hL', hK'⟩ := home_store HB.out (by decide) H5.out 0 (.bool false)
        replace HP := hid (HP.out.keep (hK' 1 (by decide)))
        replace H4 := hid (H4.out.keep (hK' 2 (by decide)))
        replace HS := hid (HS.out.keep (hK' 4 (by decide)))
        replace HW := hid (HW.out.keep (hK' 5 (by decide)))
        replace H5 := hid hL'
        replace HB := hid hB'
        clear hB' hL' hK'
        have hsz_x11 : Hid ((x10.setCell ⟨(w.heap.size+2), 0, none⟩ (.bool false)).heap.size = x8.heap.size) := hid (by simp [hsz_x10.out])
        generalize x10.setCell ⟨(w.heap.size+2), 0, none⟩ (.bool false) = x11 at HB hsz_x11 HP H4 H5 HS HW ⊢
        replace p0 := HP.out.1.at 0 _ rfl
        replace pf0 := HP.out.1.free 0
        replace p1 := HP.out.1.at 1 _ rfl
        replace pf1 := HP.out.1.free 1
        replace plt := HP.out.1.lt
        replace q0 := H4.out.1.at 0 _ rfl
        replace qf0 := H4.out.1.free 0
        replace q1 := H4.out.1.at 1 _ rfl
        replace qf1 := H4.out.1.free 1
        replace qlt := H4.out.1.lt
        replace t0 := H5.out.1.at 0 _ rfl
        replace tf0 := H5.out.1.free 0
        replace t1 := H5.out.1.at 1 _ rfl
        replace tf1 := H5.out.1.free 1
        replace t2 := H5.out.1.at 2 _ rfl
        replace tf2 := H5.out.1.free 2
        replace tlt := H5.out.1.lt
        replace s0 := HS.out.1.at 0 _ rfl
        replace sf0 := HS.out.1.free 0
        replace s1 := HS.out.1.at 1 _ rfl
        replace sf1 := HS.out.1.free 1
        replace s2 := HS.out.1.at 2 _ rfl
        replace sf2 := HS.out.1.free 2
        replace slt := HS.out.1.lt
        obtain ⟨hB', hL', hK'⟩ := home_store HB.out (by decide) H5.out 1 (.string ⟨#[]⟩)
        replace HP := hid (HP.out.keep (hK' 1 (by decide)))
        replace H4 := hid (H4.out.keep (hK' 2 (by decide)))
        replace HS := hid (HS.out.keep (hK' 4 (by decide)))
        replace HW := hid (HW.out.keep (hK' 5 (by decide)))
        replace H5 := hid hL'
        replace HB := hid hB'
        clear hB' hL' hK'
        have hsz_x12 : Hid ((x11.setCell ⟨(w.heap.size+2), 1, none⟩ (.string ⟨#[]⟩)).heap.size = x8.heap.size) := hid (by simp [hsz_x11.out])
        generalize x11.setCell ⟨(w.heap.size+2), 1, none⟩ (.string ⟨#[]⟩) = x12 at HB hsz_x12 HP H4 H5 HS HW ⊢
        replace p0 := HP.out.1.at 0 _ rfl
        replace pf0 := HP.out.1.free 0
        replace p1 := HP.out.1.at 1 _ rfl
        replace pf1 := HP.out.1.free 1
        replace plt := HP.out.1.lt
        replace q0 := H4.out.1.at 0 _ rfl
        replace qf0 := H4.out.1.free 0
        replace q1 := H4.out.1.at 1 _ rfl
        replace qf1 := H4.out.1.free 1
        replace qlt := H4.out.1.lt
        replace t0 := H5.out.1.at 0 _ rfl
        replace tf0 := H5.out.1.free 0
        replace t1 := H5.out.1.at 1 _ rfl
        replace tf1 := H5.out.1.free 1
        replace t2 := H5.out.1.at 2 _ rfl
        replace tf2 := H5.out.1.free 2
        replace tlt := H5.out.1.lt
        replace s0 := HS.out.1.at 0 _ rfl
        replace sf0 := HS.out.1.free 0
        replace s1 := HS.out.1.at 1 _ rfl
        replace sf1 := HS.out.1.free 1
        replace s2 := HS.out.1.at 2 _ rfl
        replace sf2 := HS.out.1.free 2
        replace slt := HS.out.1.lt
        obtain ⟨hB', hL', hK'⟩ := home_store HB.out (by decide) H5.out 2 (.bool false)
        replace HP := hid (HP.out.keep (hK' 1 (by decide)))
        replace H4 := hid (H4.out.keep (hK' 2 (by decide)))
        replace HS := hid (HS.out.keep (hK' 4 (by decide)))
        replace HW := hid (HW.out.keep (hK' 5 (by decide)))
        replace H5 := hid hL'
        replace HB := hid hB'
        clear hB' hL' hK'
        have hsz_x13 : Hid ((x12.setCell ⟨(w.heap.size+2), 2, none⟩ (.bool false)).heap.size = x8.heap.size) := hid (by simp [hsz_x12.out])
        generalize x12.setCell ⟨(w.heap.size+2), 2, none⟩ (.bool false) = x13 at HB hsz_x13 HP H4 H5 HS HW ⊢
        replace p0 := HP.out.1.at 0 _ rfl
        replace pf0 := HP.out.1.free 0
        replace p1 := HP.out.1.at 1 _ rfl
        replace pf1 := HP.out.1.free 1
        replace plt := HP.out.1.lt
        replace q0 := H4.out.1.at 0 _ rfl
        replace qf0 := H4.out.1.free 0
        replace q1 := H4.out.1.at 1 _ rfl
        replace qf1 := H4.out.1.free 1
        replace qlt := H4.out.1.lt
        replace t0 := H5.out.1.at 0 _ rfl
        replace tf0 := H5.out.1.free 0
        replace t1 := H5.out.1.at 1 _ rfl
        replace tf1 := H5.out.1.free 1
        replace t2 := H5.out.1.at 2 _ rfl
        replace tf2 := H5.out.1.free 2
        replace tlt := H5.out.1.lt
        replace s0 := HS.out.1.at 0 _ rfl
        replace sf0 := HS.out.1.free 0
        replace s1 := HS.out.1.at 1 _ rfl
        replace sf1 := HS.out.1.free 1
        replace s2 := HS.out.1.at 2 _ rfl
        replace sf2 := HS.out.1.free 2
        replace slt := HS.out.1.lt
        obtain ⟨hB', hK'⟩ := home_drew HB.out
        replace HP := hid (HP.out.keep (hK' 1))
        replace H4 := hid (H4.out.keep (hK' 2))
        replace H5 := hid (H5.out.keep (hK' 3))
        replace HS := hid (HS.out.keep (hK' 4))
        replace HW := hid (HW.out.keep (hK' 5))
        replace HB := hid hB'
        clear hB' hK'
        replace p0 := HP.out.1.at 0 _ rfl
        replace pf0 := HP.out.1.free 0
        replace p1 := HP.out.1.at 1 _ rfl
        replace pf1 := HP.out.1.free 1
        replace plt := HP.out.1.lt
        replace q0 := H4.out.1.at 0 _ rfl
        replace qf0 := H4.out.1.free 0
        replace q1 := H4.out.1.at 1 _ rfl
        replace qf1 := H4.out.1.free 1
        replace qlt := H4.out.1.lt
        replace t0 := H5.out.1.at 0 _ rfl
        replace tf0 := H5.out.1.free 0
        replace t1 := H5.out.1.at 1 _ rfl
        replace tf1 := H5.out.1.free 1
        replace t2 := H5.out.1.at 2 _ rfl
        replace tf2 := H5.out.1.free 2
        replace tlt := H5.out.1.lt
        replace s0 := HS.out.1.at 0 _ rfl
        replace sf0 := HS.out.1.free 0
        replace s1 := HS.out.1.at 1 _ rfl
        replace sf1 := HS.out.1.free 1
        replace s2 := HS.out.1.at 2 _ rfl
        replace sf2 := HS.out.1.free 2
        replace slt := HS.out.1.lt
        go_wp2_with fail
        refine bodyPost_ret (v := .tuple #[.agg #[.int .i64 M, (.slice ab (bk ks key).length cb)], .agg #[.bool false, .string ⟨#[]⟩, .bool false]]) (by simp [results, Try.results27, go_sem, q0, q1, t0, t1, t2]) rfl ⟨_, rfl, HB.out.nil, ?_⟩
        exact HW.out.strs.mono fun k _ q => .inr (HB.out.newLim k (by omega))

set_option maxHeartbeats 3200000 in
set_option maxRecDepth 100000 in
theorem ref05_Adopt (h : Strs w S v ks) (hl : ks.length ≤ 1000000) (key : ByteArray) :
    Calls Try.prog 30 #[.agg #[.int .i64 M, v], .string key] w (MakesFrom S w (fun u => .tuple #[.agg #[.int .i64 M, u], .bool (lruRoom M ks key)]) fun u w S => Strs w S u (if lruRoom M ks key then bk ks key else ks)) := by
  have HV := hid h
  have HB := hid (Home.start none0 w)
  obtain ⟨a, cap, rfl, hc1, hc2, _⟩ := h.shape
  unfold maxLen at hc2
  clear h
  by_cases h1 : key ∈ ks
  · rw [show lruRoom M ks key = false by unfold lruRoom; simp [h1], if_neg (by decide)]
    have HD := hid (show decide (key ∈ ks) = true by simp [h1])
    clear h1
    go_enter Try.func30, Try.ntmps30
    go_wp2_with fail
    obtain ⟨own1, hB', hL', hK'⟩ := home_alloc HB.out [.int .i64 M, .slice a ks.length cap] 42 1
    have HP := hid hL'
    replace HB := hid hB'
    clear hB' hL' hK'
    have hsz_x1 : Hid ((w.alloc (.cells [.int .i64 M, .slice a ks.length cap].toArray 42)).heap.size = w.heap.size + 1) := hid (by simp)
    generalize w.alloc (.cells [.int .i64 M, .slice a ks.length cap].toArray 42) = x1 at HB hsz_x1 HP ⊢
    obtain ⟨own2, hB', hL', hK'⟩ := home_alloc HB.out [.int .i64 0, .slice none 0 0] 42 2
    replace HP := hid (HP.out.keep (hK' 1))
    rw [hsz_x1.out] at hL'
    have H4 := hid hL'
    replace HB := hid hB'
    clear hB' hL' hK'
    have hsz_x2 : Hid ((x1.alloc (.cells [.int .i64 0, .slice none 0 0].toArray 42)).heap.size = w.heap.size + 2) := hid (by simp [hsz_x1.out])
    generalize x1.alloc (.cells [.int .i64 0, .slice none 0 0].toArray 42) = x2 at HB hsz_x2 HP H4 ⊢
    have p0 := HP.out.1.at 0 _ rfl
    have pf0 := HP.out.1.free 0
    have p1 := HP.out.1.at 1 _ rfl
    have pf1 := HP.out.1.free 1
    have plt := HP.out.1.lt
    have q0 := H4.out.1.at 0 _ rfl
    have qf0 := H4.out.1.free 0
    have q1 := H4.out.1.at 1 _ rfl
    have qf1 := H4.out.1.free 1
    have qlt := H4.out.1.lt
    go_wp2_with fail
    have hct := (r_Has (HV.out.modNil HB.out.nil) key)
    with_reducible refine hct.mono ?_
    clear hct
    rintro e w' ⟨rfl, rfl⟩
    rw [HD.out]
    go_wp2_with fail
    obtain ⟨hB', hL', hK'⟩ := home_store HB.out (by decide) H4.out 0 (.int .i64 M)
    replace HP := hid (HP.out.keep (hK' 1 (by decide)))
    replace H4 := hid hL'
    replace HB := hid hB'
    clear hB' hL' hK'
    have hsz_x4 : Hid ((x2.setCell ⟨(w.heap.size+1), 0, none⟩ (.int .i64 M)).heap.size = x2.heap.size) := hid (by simp)
    generalize x2.setCell ⟨(w.heap.size+1), 0, none⟩ (.int .i64 M) = x4 at HB hsz_x4 HP H4 ⊢
    replace p0 := HP.out.1.at 0 _ rfl
    replace pf0 := HP.out.1.free 0
    replace p1 := HP.out.1.at 1 _ rfl
    replace pf1 := HP.out.1.free 1
    replace plt := HP.out.1.lt
    replace q0 := H4.out.1.at 0 _ rfl
    replace qf0 := H4.out.1.free 0
    replace q1 := H4.out.1.at 1 _ rfl
    replace qf1 := H4.out.1.free 1
    replace qlt := H4.out.1.lt
    obtain ⟨hB', hL', hK'⟩ := home_store HB.out (by decide) H4.out 1 (.slice a ks.length cap)
    replace HP := hid (HP.out.keep (hK' 1 (by decide)))
    replace H4 := hid hL'
    replace HB := hid hB'
    clear hB' hL' hK'
    have hsz_x5 : Hid ((x4.setCell ⟨(w.heap.size+1), 1, none⟩ (.slice a ks.length cap)).heap.size = x2.heap.size) := hid (by simp [hsz_x4.out])
    generalize x4.setCell ⟨(w.heap.size+1), 1, none⟩ (.slice a ks.length cap) = x5 at HB hsz_x5 HP H4 ⊢
    replace p0 := HP.out.1.at 0 _ rfl
    replace pf0 := HP.out.1.free 0
    replace p1 := HP.out.1.at 1 _ rfl
    replace pf1 := HP.out.1.free 1
    replace plt := HP.out.1.lt
    replace q0 := H4.out.1.at 0 _ rfl
    replace qf0 := H4.out.1.free 0
    replace q1 := H4.out.1.at 1 _ rfl
    replace qf1 := H4.out.1.free 1
    replace qlt := H4.out.1.lt
    refine bodyPost_ret (v := .tuple #[.agg #[.int .i64 M, (.slice a ks.length cap)], .bool false]) (by simp [results, Try.results30, go_sem, q0, q1]) rfl ⟨_, rfl, HB.out.nil, ?_⟩
    exact (HV.out.modNil HB.out.nil).mono fun _ _ q => .inl q
  · have HD := hid (show decide (key ∈ ks) = false by simp [h1])
    by_cases h2 : (ks.length : Int) < M
    · rw [show lruRoom M ks key = true by unfold lruRoom; simp [h1, h2], if_pos rfl]
      clear h1
      go_enter Try.func30, Try.ntmps30
      go_wp2_with fail
      obtain ⟨own1, hB', hL', hK'⟩ := home_alloc HB.out [.int .i64 M, .slice a ks.length cap] 42 1
      have HP := hid hL'
      replace HB := hid hB'
      clear hB' hL' hK'
      have hsz_x1 : Hid ((w.alloc (.cells [.int .i64 M, .slice a ks.length cap].toArray 42)).heap.size = w.heap.size + 1) := hid (by simp)
      generalize w.alloc (.cells [.int .i64 M, .slice a ks.length cap].toArray 42) = x1 at HB hsz_x1 HP ⊢
      obtain ⟨own2, hB', hL', hK'⟩ := home_alloc HB.out [.int .i64 0, .slice none 0 0] 42 2
      replace HP := hid (HP.out.keep (hK' 1))
      rw [hsz_x1.out] at hL'
      have H4 := hid hL'
      replace HB := hid hB'
      clear hB' hL' hK'
      have hsz_x2 : Hid ((x1.alloc (.cells [.int .i64 0, .slice none 0 0].toArray 42)).heap.size = w.heap.size + 2) := hid (by simp [hsz_x1.out])
      generalize x1.alloc (.cells [.int .i64 0, .slice none 0 0].toArray 42) = x2 at HB hsz_x2 HP H4 ⊢
      have p0 := HP.out.1.at 0 _ rfl
      have pf0 := HP.out.1.free 0
      have p1 := HP.out.1.at 1 _ rfl
      have pf1 := HP.out.1.free 1
      have plt := HP.out.1.lt
      have q0 := H4.out.1.at 0 _ rfl
      have qf0 := H4.out.1.free 0
      have q1 := H4.out.1.at 1 _ rfl
      have qf1 := H4.out.1.free 1
      have qlt := H4.out.1.lt
      go_wp2_with fail
      have hct := (r_Has (HV.out.modNil HB.out.nil) key)
      with_reducible refine hct.mono ?_
      clear hct
      rintro e w' ⟨rfl, rfl⟩
      rw [HD.out]
      go_wp2_with fail
      have hct := step_make HB.out 5 (r_Back (HV.out.modNil HB.out.nil) (by omega) key)
      with_reducible refine hct.mono ?_
      clear hct
      rintro e x4 ⟨vb, own4, rfl, hB', hL', hK'⟩
      replace HP := hid (HP.out.keep (hK' 1))
      replace H4 := hid (H4.out.keep (hK' 2))
      have HW := hid hL'
      replace HB := hid hB'
      clear hB' hL' hK'
      replace p0 := HP.out.1.at 0 _ rfl
      replace pf0 := HP.out.1.free 0
      replace p1 := HP.out.1.at 1 _ rfl
      replace pf1 := HP.out.1.free 1
      replace plt := HP.out.1.lt
      replace q0 := H4.out.1.at 0 _ rfl
      replace qf0 := H4.out.1.free 0
      replace q1 := H4.out.1.at 1 _ rfl
      replace qf1 := H4.out.1.free 1
      replace qlt := H4.out.1.lt
      obtain ⟨ab, cb, rfl, _, _⟩ := HW.out.len
      go_wp2_with fail
      obtain ⟨hB', hL', hK'⟩ := home_store HB.out (by decide) HP.out 1 (.slice ab (bk ks key).length cb)
      replace H4 := hid (H4.out.keep (hK' 2 (by decide)))
      replace HW := hid (HW.out.keep (hK' 5 (by decide)))
      replace HP := hid hL'
      replace HB := hid hB'
      clear hB' hL' hK'
      have hsz_x5 : Hid ((x4.setCell ⟨w.heap.size, 1, none⟩ (.slice ab (bk ks key).length cb)).heap.size = x4.heap.size) := hid (by simp)
      generalize x4.setCell ⟨w.heap.size, 1, none⟩ (.slice ab (bk ks key).length cb) = x5 at HB hsz_x5 HP H4 HW ⊢
      replace p0 := HP.out.1.at 0 _ rfl
      replace pf0 := HP.out.1.free 0
      replace p1 := HP.out.1.at 1 _ rfl
      replace pf1 := HP.out.1.free 1
      replace plt := HP.out.1.lt
      replace q0 := H4.out.1.at 0 _ rfl
      replace qf0 := H4.out.1.free 0
      replace q1 := H4.out.1.at 1 _ rfl
      replace qf1 := H4.out.1.free 1
      replace qlt := H4.out.1.lt
      obtain ⟨hB', hL', hK'⟩ := home_store HB.out (by decide) H4.out 0 (.int .i64 M)
      replace HP := hid (HP.out.keep (hK' 1 (by decide)))
      replace HW := hid (HW.out.keep (hK' 5 (by decide)))
      replace H4 := hid hL'
      replace HB := hid hB'
      clear hB' hL' hK'
      have hsz_x6 : Hid ((x5.setCell ⟨(w.heap.size+1), 0, none⟩ (.int .i64 M)).heap.size = x4.heap.size) := hid (by simp [hsz_x5.out])
      generalize x5.setCell ⟨(w.heap.size+1), 0, none⟩ (.int .i64 M) = x6 at HB hsz_x6 HP H4 HW ⊢
      replace p0 := HP.out.1.at 0 _ rfl
      replace pf0 := HP.out.1.free 0
      replace p1 := HP.out.1.at 1 _ rfl
      replace pf1 := HP.out.1.free 1
      replace plt := HP.out.1.lt
      replace q0 := H4.out.1.at 0 _ rfl
      replace qf0 := H4.out.1.free 0
      replace q1 := H4.out.1.at 1 _ rfl
      replace qf1 := H4.out.1.free 1
      replace qlt := H4.out.1.lt
      obtain ⟨hB', hL', hK'⟩ := home_store HB.out (by decide) H4.out 1 (.slice ab (bk ks key).length cb)
      replace HP := hid (HP.out.keep (hK' 1 (by decide)))
      replace HW := hid (HW.out.keep (hK' 5 (by decide)))
      replace H4 := hid hL'
      replace HB := hid hB'
      clear hB' hL' hK'
      have hsz_x7 : Hid ((x6.setCell ⟨(w.heap.size+1), 1, none⟩ (.slice ab (bk ks key).length cb)).heap.size = x4.heap.size) := hid (by simp [hsz_x6.out])
      generalize x6.setCell ⟨(w.heap.size+1), 1, none⟩ (.slice ab (bk ks key).length cb) = x7 at HB hsz_x7 HP H4 HW ⊢
      replace p0 := HP.out.1.at 0 _ rfl
      replace pf0 := HP.out.1.free 0
      replace p1 := HP.out.1.at 1 _ rfl
      replace pf1 := HP.out.1.free 1
      replace plt := HP.out.1.lt
      replace q0 := H4.out.1.at 0 _ rfl
      replace qf0 := H4.out.1.free 0
      replace q1 := H4.out.1.at 1 _ rfl
      replace qf1 := H4.out.1.free 1
      replace qlt := H4.out.1.lt
      refine bodyPost_ret (v := .tuple #[.agg #[.int .i64 M, (.slice ab (bk ks key).length cb)], .bool true]) (by simp [results, Try.results30, go_sem, q0, q1]) rfl ⟨_, rfl, HB.out.nil, ?_⟩
      exact HW.out.strs.mono fun k _ q => .inr (HB.out.newLim k (by omega))
    · rw [show lruRoom M ks key = false by unfold lruRoom; simp [h2], if_neg (by decide)]
      clear h1
      go_enter Try.func30, Try.ntmps30
      go_wp2_with fail
      obtain ⟨own1, hB', hL', hK'⟩ := home_alloc HB.out [.int .i64 M, .slice a ks.length cap] 42 1
      have HP := hid hL'
      replace HB := hid hB'
      clear hB' hL' hK'
      have hsz_x1 : Hid ((w.alloc (.cells [.int .i64 M, .slice a ks.length cap].toArray 42)).heap.size = w.heap.size + 1) := hid (by simp)
      generalize w.alloc (.cells [.int .i64 M, .slice a ks.length cap].toArray 42) = x1 at HB hsz_x1 HP ⊢
      obtain ⟨own2, hB', hL', hK'⟩ := home_alloc HB.out [.int .i64 0, .slice none 0 0] 42 2
      replace HP := hid (HP.out.keep (hK' 1))
      rw [hsz_x1.out] at hL'
      have H4 := hid hL'
      replace HB := hid hB'
      clear hB' hL' hK'
      have hsz_x2 : Hid ((x1.alloc (.cells [.int .i64 0, .slice none 0 0].toArray 42)).heap.size = w.heap.size + 2) := hid (by simp [hsz_x1.out])
      generalize x1.alloc (.cells [.int .i64 0, .slice none 0 0].toArray 42) = x2 at HB hsz_x2 HP H4 ⊢
      have p0 := HP.out.1.at 0 _ rfl
      have pf0 := HP.out.1.free 0
      have p1 := HP.out.1.at 1 _ rfl
      have pf1 := HP.out.1.free 1
      have plt := HP.out.1.lt
      have q0 := H4.out.1.at 0 _ rfl
      have qf0 := H4.out.1.free 0
      have q1 := H4.out.1.at 1 _ rfl
      have qf1 := H4.out.1.free 1
      have qlt := H4.out.1.lt
      go_wp2_with fail
      have hct := (r_Has (HV.out.modNil HB.out.nil) key)
      with_reducible refine hct.mono ?_
      clear hct
      rintro e w' ⟨rfl, rfl⟩
      rw [HD.out]
      go_wp2_with fail
      obtain ⟨hB', hL', hK'⟩ := home_store HB.out (by decide) H4.out 0 (.int .i64 M)
      replace HP := hid (HP.out.keep (hK' 1 (by decide)))
      replace H4 := hid hL'
      replace HB := hid hB'
      clear hB' hL' hK'
      have hsz_x4 : Hid ((x2.setCell ⟨(w.heap.size+1), 0, none⟩ (.int .i64 M)).heap.size = x2.heap.size) := hid (by simp)
      generalize x2.setCell ⟨(w.heap.size+1), 0, none⟩ (.int .i64 M) = x4 at HB hsz_x4 HP H4 ⊢
      replace p0 := HP.out.1.at 0 _ rfl
      replace pf0 := HP.out.1.free 0
      replace p1 := HP.out.1.at 1 _ rfl
      replace pf1 := HP.out.1.free 1
      replace plt := HP.out.1.lt
      replace q0 := H4.out.1.at 0 _ rfl
      replace qf0 := H4.out.1.free 0
      replace q1 := H4.out.1.at 1 _ rfl
      replace qf1 := H4.out.1.free 1
      replace qlt := H4.out.1.lt
      obtain ⟨hB', hL', hK'⟩ := home_store HB.out (by decide) H4.out 1 (.slice a ks.length cap)
      replace HP := hid (HP.out.keep (hK' 1 (by decide)))
      replace H4 := hid hL'
      replace HB := hid hB'
      clear hB' hL' hK'
      have hsz_x5 : Hid ((x4.setCell ⟨(w.heap.size+1), 1, none⟩ (.slice a ks.length cap)).heap.size = x2.heap.size) := hid (by simp [hsz_x4.out])
      generalize x4.setCell ⟨(w.heap.size+1), 1, none⟩ (.slice a ks.length cap) = x5 at HB hsz_x5 HP H4 ⊢
      replace p0 := HP.out.1.at 0 _ rfl
      replace pf0 := HP.out.1.free 0
      replace p1 := HP.out.1.at 1 _ rfl
      replace pf1 := HP.out.1.free 1
      replace plt := HP.out.1.lt
      replace q0 := H4.out.1.at 0 _ rfl
      replace qf0 := H4.out.1.free 0
      replace q1 := H4.out.1.at 1 _ rfl
      replace qf1 := H4.out.1.free 1
      replace qlt := H4.out.1.lt
      refine bodyPost_ret (v := .tuple #[.agg #[.int .i64 M, (.slice a ks.length cap)], .bool false]) (by simp [results, Try.results30, go_sem, q0, q1]) rfl ⟨_, rfl, HB.out.nil, ?_⟩
      exact (HV.out.modNil HB.out.nil).mono fun _ _ q => .inl q

set_option maxHeartbeats 3200000 in
set_option maxRecDepth 100000 in
theorem ref05_Resize (h : Strs w S v ks) (hl : ks.length ≤ 1000000) (m : Int) (hm : -9223372036854775808 ≤ m ∧ m ≤ 9223372036854775807) :
    Calls Try.prog 32 #[.agg #[.int .i64 M, v], .int .i64 m] w fun e w' => ∃ u o, e = .returned (.tuple #[.agg #[.int .i64 (max m 0), u], o]) ∧ Mod Nil w w' ∧ Strs w' S u (lruKeep m ks) ∧ Strs w' S o (lruOut m ks) := by
  have HV := hid h
  have HB := hid (Home.start none0 w)
  obtain ⟨a, cap, rfl, hc1, hc2, _⟩ := h.shape
  unfold maxLen at hc2
  clear h
  have HN := hid (fun y : World => ref05_New (w := y) m hm)
  obtain ⟨x, hx⟩ : ∃ x, x = max m 0 := ⟨_, rfl⟩
  obtain ⟨D, hD⟩ : ∃ D, D = ks.length - m.toNat := ⟨_, rfl⟩
  have hDk : D ≤ ks.length := by omega
  have hD1 : (∃ K : Nat, x = K ∧ ks.length = D + K) ∨ ((ks.length : Int) - x < 0 ∧ D = 0) := by
    have hxt : x = (m.toNat : Int) := by
      rw [hx]
      rcases Int.le_total m 0 with q | q
      · rw [Int.max_eq_right q]; omega
      · rw [Int.max_eq_left q]; omega
    clear hx hc1 hc2
    generalize m.toNat = T at hD hxt
    by_cases q : (ks.length : Int) - x < 0
    · exact .inr ⟨q, by omega⟩
    · exact .inl ⟨ks.length - D, by omega, by omega⟩
  have hx0 : 0 ≤ x ∧ x ≤ 9223372036854775807 := by
    rw [hx]
    rcases Int.le_total m 0 with q | q
    · rw [Int.max_eq_right q]; omega
    · rw [Int.max_eq_left q]; omega
  have HK := hid (show lruKeep m ks = ks.drop D by rw [hD]; rfl)
  have HO := hid (show lruOut m ks = ks.take D by rw [hD]; rfl)
  rw [← hx] at HN
  rw [HK.out, HO.out, ← hx]
  have HTL := hid (show ∀ y A, (if cap = D then a else a.map fun x => x.add D) = A → Strs y S (.slice a ks.length cap) ks → Strs y S (.slice A (ks.length - D) (cap - D)) (ks.drop D) from fun y A hA hy => hA ▸ hy.cutFrom hDk)
  have HTO := hid (show ∀ y, Strs y S (.slice a ks.length cap) ks → Strs y S (.slice a D cap) (ks.take D) from fun y hy => hy.cutTo hDk)
  obtain ⟨L, hL⟩ : ∃ L, L = ks.length := ⟨_, rfl⟩
  rw [← hL] at HV HTL HTO hD1 hDk hl hc1 ⊢
  obtain ⟨hx1, hx2⟩ := hx0
  clear hD hx hL
  rcases hD1 with ⟨K, rfl, rfl⟩ | ⟨hD1, rfl⟩
  · have hk1 : ((D + K : Nat) : Int) ≤ (cap : Int) := by omega
    obtain ⟨A, hA⟩ : ∃ A, (if cap = D then a else a.map fun x => x.add D) = A := ⟨_, rfl⟩
    have HTA := hid (fun y => HTL.out y A hA)
    go_enter Try.func32, Try.ntmps32
    go_wp2_with fail
    obtain ⟨own1, hB', hL', hK'⟩ := home_alloc HB.out [.int .i64 M, .slice a (D + K) cap] 42 1
    have HP := hid hL'
    replace HB := hid hB'
    clear hB' hL' hK'
    have hsz_x1 : Hid ((w.alloc (.cells [.int .i64 M, .slice a (D + K) cap].toArray 42)).heap.size = w.heap.size + 1) := hid (by simp)
    generalize w.alloc (.cells [.int .i64 M, .slice a (D + K) cap].toArray 42) = x1 at HB hsz_x1 HP ⊢
    obtain ⟨own2, hB', hL', hK'⟩ := home_alloc HB.out [.int .i64 0, .slice none 0 0] 42 2
    replace HP := hid (HP.out.keep (hK' 1))
    rw [hsz_x1.out] at hL'
    have H4 := hid hL'
    replace HB := hid hB'
    clear hB' hL' hK'
    have hsz_x2 : Hid ((x1.alloc (.cells [.int .i64 0, .slice none 0 0].toArray 42)).heap.size = w.heap.size + 2) := hid (by simp [hsz_x1.out])
    generalize x1.alloc (.cells [.int .i64 0, .slice none 0 0].toArray 42) = x2 at HB hsz_x2 HP H4 ⊢
    have p0 := HP.out.1.at 0 _ rfl
    have pf0 := HP.out.1.free 0
    have p1 := HP.out.1.at 1 _ rfl
    have pf1 := HP.out.1.free 1
    have plt := HP.out.1.lt
    have q0 := H4.out.1.at 0 _ rfl
    have qf0 := H4.out.1.free 0
    have q1 := H4.out.1.at 1 _ rfl
    have qf1 := H4.out.1.free 1
    have qlt := H4.out.1.lt
    have hf : ∀ y, (Instr.field 42 (.agg #[.int .i64 (K : Int), .slice none 0 0]) 0).run Try.prog y = .ok (.int .i64 (K : Int)) y := fun y => by kernel_rfl
    go_wp2_with fail
    have hct := step_quiet HB.out (HN.out _)
    with_reducible refine hct.mono ?_
    clear hct
    rintro e x3 ⟨rfl, hB', hK'⟩
    replace HP := hid (HP.out.keep (hK' 1))
    replace H4 := hid (H4.out.keep (hK' 2))
    replace HB := hid hB'
    clear hB' hK'
    replace p0 := HP.out.1.at 0 _ rfl
    replace pf0 := HP.out.1.free 0
    replace p1 := HP.out.1.at 1 _ rfl
    replace pf1 := HP.out.1.free 1
    replace plt := HP.out.1.lt
    replace q0 := H4.out.1.at 0 _ rfl
    replace qf0 := H4.out.1.free 0
    replace q1 := H4.out.1.at 1 _ rfl
    replace qf1 := H4.out.1.free 1
    replace qlt := H4.out.1.lt
    go_wp2_with fail
    clear hA
    obtain ⟨hB', hL', hK'⟩ := home_store HB.out (by decide) HP.out 0 (.int .i64 (K : Int))
    replace H4 := hid (H4.out.keep (hK' 2 (by decide)))
    replace HP := hid hL'
    replace HB := hid hB'
    clear hB' hL' hK'
    have hsz_x4 : Hid ((x3.setCell ⟨w.heap.size, 0, none⟩ (.int .i64 (K : Int))).heap.size = x3.heap.size) := hid (by simp)
    generalize x3.setCell ⟨w.heap.size, 0, none⟩ (.int .i64 (K : Int)) = x4 at HB hsz_x4 HP H4 ⊢
    replace p0 := HP.out.1.at 0 _ rfl
    replace pf0 := HP.out.1.free 0
    replace p1 := HP.out.1.at 1 _ rfl
    replace pf1 := HP.out.1.free 1
    replace plt := HP.out.1.lt
    replace q0 := H4.out.1.at 0 _ rfl
    replace qf0 := H4.out.1.free 0
    replace q1 := H4.out.1.at 1 _ rfl
    replace qf1 := H4.out.1.free 1
    replace qlt := H4.out.1.lt
    obtain ⟨hB', hL', hK'⟩ := home_store HB.out (by decide) HP.out 1 (.slice A K (cap - D))
    replace H4 := hid (H4.out.keep (hK' 2 (by decide)))
    replace HP := hid hL'
    replace HB := hid hB'
    clear hB' hL' hK'
    have hsz_x5 : Hid ((x4.setCell ⟨w.heap.size, 1, none⟩ (.slice A K (cap - D))).heap.size = x3.heap.size) := hid (by simp [hsz_x4.out])
    generalize x4.setCell ⟨w.heap.size, 1, none⟩ (.slice A K (cap - D)) = x5 at HB hsz_x5 HP H4 ⊢
    replace p0 := HP.out.1.at 0 _ rfl
    replace pf0 := HP.out.1.free 0
    replace p1 := HP.out.1.at 1 _ rfl
    replace pf1 := HP.out.1.free 1
    replace plt := HP.out.1.lt
    replace q0 := H4.out.1.at 0 _ rfl
    replace qf0 := H4.out.1.free 0
    replace q1 := H4.out.1.at 1 _ rfl
    replace qf1 := H4.out.1.free 1
    replace qlt := H4.out.1.lt
    obtain ⟨hB', hL', hK'⟩ := home_store HB.out (by decide) H4.out 0 (.int .i64 (K : Int))
    replace HP := hid (HP.out.keep (hK' 1 (by decide)))
    replace H4 := hid hL'
    replace HB := hid hB'
    clear hB' hL' hK'
    have hsz_x6 : Hid ((x5.setCell ⟨(w.heap.size+1), 0, none⟩ (.int .i64 (K : Int))).heap.size = x3.heap.size) := hid (by simp [hsz_x5.out])
    generalize x5.setCell ⟨(w.heap.size+1), 0, none⟩ (.int .i64 (K : Int)) = x6 at HB hsz_x6 HP H4 ⊢
    replace p0 := HP.out.1.at 0 _ rfl
    replace pf0 := HP.out.1.free 0
    replace p1 := HP.out.1.at 1 _ rfl
    replace pf1 := HP.out.1.free 1
    replace plt := HP.out.1.lt
    replace q0 := H4.out.1.at 0 _ rfl
    replace qf0 := H4.out.1.free 0
    replace q1 := H4.out.1.at 1 _ rfl
    replace qf1 := H4.out.1.free 1
    replace qlt := H4.out.1.lt
    obtain ⟨hB', hL', hK'⟩ := home_store HB.out (by decide) H4.out 1 (.slice A K (cap - D))
    replace HP := hid (HP.out.keep (hK' 1 (by decide)))
    replace H4 := hid hL'
    replace HB := hid hB'
    clear hB' hL' hK'
    have hsz_x7 : Hid ((x6.setCell ⟨(w.heap.size+1), 1, none⟩ (.slice A K (cap - D))).heap.size = x3.heap.size) := hid (by simp [hsz_x6.out])
    generalize x6.setCell ⟨(w.heap.size+1), 1, none⟩ (.slice A K (cap - D)) = x7 at HB hsz_x7 HP H4 ⊢
    replace p0 := HP.out.1.at 0 _ rfl
    replace pf0 := HP.out.1.free 0
    replace p1 := HP.out.1.at 1 _ rfl
    replace pf1 := HP.out.1.free 1
    replace plt := HP.out.1.lt
    replace q0 := H4.out.1.at 0 _ rfl
    replace qf0 := H4.out.1.free 0
    replace q1 := H4.out.1.at 1 _ rfl
    replace qf1 := H4.out.1.free 1
    replace qlt := H4.out.1.lt
    refine bodyPost_ret (v := .tuple #[.agg #[.int .i64 (K : Int), .slice A K (cap - D)], .slice a D cap]) (by simp [results, Try.results32, go_sem, q0, q1]) rfl ⟨_, _, rfl, HB.out.nil, ?_, ?_⟩
    · first
      | exact HV.out.modNil HB.out.nil
      | (have := HTA.out _ (HV.out.modNil HB.out.nil); simpa using this)
    · have := HTO.out _ (HV.out.modNil HB.out.nil)
      simpa using this
  · obtain ⟨A, hA⟩ : ∃ A, (if cap = 0 then a else a.map fun x => x.add 0) = A := ⟨_, rfl⟩
    have HTA := hid (fun y => HTL.out y A hA)
    go_enter Try.func32, Try.ntmps32
    go_wp2_with fail
    obtain ⟨own1, hB', hL', hK'⟩ := home_alloc HB.out [.int .i64 M, .slice a L cap] 42 1
    have HP := hid hL'
    replace HB := hid hB'
    clear hB' hL' hK'
    have hsz_x1 : Hid ((w.alloc (.cells [.int .i64 M, .slice a L cap].toArray 42)).heap.size = w.heap.size + 1) := hid (by simp)
    generalize w.alloc (.cells [.int .i64 M, .slice a L cap].toArray 42) = x1 at HB hsz_x1 HP ⊢
    obtain ⟨own2, hB', hL', hK'⟩ := home_alloc HB.out [.int .i64 0, .slice none 0 0] 42 2
    replace HP := hid (HP.out.keep (hK' 1))
    rw [hsz_x1.out] at hL'
    have H4 := hid hL'
    replace HB := hid hB'
    clear hB' hL' hK'
    have hsz_x2 : Hid ((x1.alloc (.cells [.int .i64 0, .slice none 0 0].toArray 42)).heap.size = w.heap.size + 2) := hid (by simp [hsz_x1.out])
    generalize x1.alloc (.cells [.int .i64 0, .slice none 0 0].toArray 42) = x2 at HB hsz_x2 HP H4 ⊢
    have p0 := HP.out.1.at 0 _ rfl
    have pf0 := HP.out.1.free 0
    have p1 := HP.out.1.at 1 _ rfl
    have pf1 := HP.out.1.free 1
    have plt := HP.out.1.lt
    have q0 := H4.out.1.at 0 _ rfl
    have qf0 := H4.out.1.free 0
    have q1 := H4.out.1.at 1 _ rfl
    have qf1 := H4.out.1.free 1
    have qlt := H4.out.1.lt
    have hf : ∀ y, (Instr.field 42 (.agg #[.int .i64 x, .slice none 0 0]) 0).run Try.prog y = .ok (.int .i64 x) y := fun y => by kernel_rfl
    go_wp2_with fail
    have hct := step_quiet HB.out (HN.out _)
    with_reducible refine hct.mono ?_
    clear hct
    rintro e x3 ⟨rfl, hB', hK'⟩
    replace HP := hid (HP.out.keep (hK' 1))
    replace H4 := hid (H4.out.keep (hK' 2))
    replace HB := hid hB'
    clear hB' hK'
    replace p0 := HP.out.1.at 0 _ rfl
    replace pf0 := HP.out.1.free 0
    replace p1 := HP.out.1.at 1 _ rfl
    replace pf1 := HP.out.1.free 1
    replace plt := HP.out.1.lt
    replace q0 := H4.out.1.at 0 _ rfl
    replace qf0 := H4.out.1.free 0
    replace q1 := H4.out.1.at 1 _ rfl
    replace qf1 := H4.out.1.free 1
    replace qlt := H4.out.1.lt
    go_wp2_with fail
    clear hA
    obtain ⟨hB', hL', hK'⟩ := home_store HB.out (by decide) HP.out 0 (.int .i64 x)
    replace H4 := hid (H4.out.keep (hK' 2 (by decide)))
    replace HP := hid hL'
    replace HB := hid hB'
    clear hB' hL' hK'
    have hsz_x4 : Hid ((x3.setCell ⟨w.heap.size, 0, none⟩ (.int .i64 x)).heap.size = x3.heap.size) := hid (by simp)
    generalize x3.setCell ⟨w.heap.size, 0, none⟩ (.int .i64 x) = x4 at HB hsz_x4 HP H4 ⊢
    replace p0 := HP.out.1.at 0 _ rfl
    replace pf0 := HP.out.1.free 0
    replace p1 := HP.out.1.at 1 _ rfl
    replace pf1 := HP.out.1.free 1
    replace plt := HP.out.1.lt
    replace q0 := H4.out.1.at 0 _ rfl
    replace qf0 := H4.out.1.free 0
    replace q1 := H4.out.1.at 1 _ rfl
    replace qf1 := H4.out.1.free 1
    replace qlt := H4.out.1.lt
    obtain ⟨hB', hL', hK'⟩ := home_store HB.out (by decide) HP.out 1 (.slice a L cap)
    replace H4 := hid (H4.out.keep (hK' 2 (by decide)))
    replace HP := hid hL'
    replace HB := hid hB'
    clear hB' hL' hK'
    have hsz_x5 : Hid ((x4.setCell ⟨w.heap.size, 1, none⟩ (.slice a L cap)).heap.size = x3.heap.size) := hid (by simp [hsz_x4.out])
    generalize x4.setCell ⟨w.heap.size, 1, none⟩ (.slice a L cap) = x5 at HB hsz_x5 HP H4 ⊢
    replace p0 := HP.out.1.at 0 _ rfl
    replace pf0 := HP.out.1.free 0
    replace p1 := HP.out.1.at 1 _ rfl
    replace pf1 := HP.out.1.free 1
    replace plt := HP.out.1.lt
    replace q0 := H4.out.1.at 0 _ rfl
    replace qf0 := H4.out.1.free 0
    replace q1 := H4.out.1.at 1 _ rfl
    replace qf1 := H4.out.1.free 1
    replace qlt := H4.out.1.lt
    obtain ⟨hB', hL', hK'⟩ := home_store HB.out (by decide) H4.out 0 (.int .i64 x)
    replace HP := hid (HP.out.keep (hK' 1 (by decide)))
    replace H4 := hid hL'
    replace HB := hid hB'
    clear hB' hL' hK'
    have hsz_x6 : Hid ((x5.setCell ⟨(w.heap.size+1), 0, none⟩ (.int .i64 x)).heap.size = x3.heap.size) := hid (by simp [hsz_x5.out])
    generalize x5.setCell ⟨(w.heap.size+1), 0, none⟩ (.int .i64 x) = x6 at HB hsz_x6 HP H4 ⊢
    replace p0 := HP.out.1.at 0 _ rfl
    replace pf0 := HP.out.1.free 0
    replace p1 := HP.out.1.at 1 _ rfl
    replace pf1 := HP.out.1.free 1
    replace plt := HP.out.1.lt
    replace q0 := H4.out.1.at 0 _ rfl
    replace qf0 := H4.out.1.free 0
    replace q1 := H4.out.1.at 1 _ rfl
    replace qf1 := H4.out.1.free 1
    replace qlt := H4.out.1.lt
    obtain ⟨hB', hL', hK'⟩ := home_store HB.out (by decide) H4.out 1 (.slice a L cap)
    replace HP := hid (HP.out.keep (hK' 1 (by decide)))
    replace H4 := hid hL'
    replace HB := hid hB'
    clear hB' hL' hK'
    have hsz_x7 : Hid ((x6.setCell ⟨(w.heap.size+1), 1, none⟩ (.slice a L cap)).heap.size = x3.heap.size) := hid (by simp [hsz_x6.out])
    generalize x6.setCell ⟨(w.heap.size+1), 1, none⟩ (.slice a L cap) = x7 at HB hsz_x7 HP H4 ⊢
    replace p0 := HP.out.1.at 0 _ rfl
    replace pf0 := HP.out.1.free 0
    replace p1 := HP.out.1.at 1 _ rfl
    replace pf1 := HP.out.1.free 1
    replace plt := HP.out.1.lt
    replace q0 := H4.out.1.at 0 _ rfl
    replace qf0 := H4.out.1.free 0
    replace q1 := H4.out.1.at 1 _ rfl
    replace qf1 := H4.out.1.free 1
    replace qlt := H4.out.1.lt
    refine bodyPost_ret (v := .tuple #[.agg #[.int .i64 x, .slice a L cap], .slice a 0 cap]) (by simp [results, Try.results32, go_sem, q0, q1]) rfl ⟨_, _, rfl, HB.out.nil, ?_, ?_⟩
    · first
      | exact HV.out.modNil HB.out.nil
      | (have := HTA.out _ (HV.out.modNil HB.out.nil); simpa using this)
    · have := HTO.out _ (HV.out.modNil HB.out.nil)
      simpa using this
end
end Go.Proofs.Ytjijjfdkghcjkaa
