/- The list of package list: what lays a key, and what reads. -/
import Derived.Test.YthbffkdfahlpdaaListA
set_option linter.unusedVariables false
namespace Go.Proofs.Ythbffkdfahlpdaa
open Go.RowKit Go.MapKept

theorem quietSame {P : Program} {f : FuncId} {args : Array Value} {w : World} {n : Nat} {v : Value}
    (h : Calls P f args (w.drewN n) fun e w' => e = .returned v ∧ w.drewN n = w') : Calls P f args (w.drewN n) fun e w'' => e = .returned v ∧ ∃ m, w'' = w.drewN m :=
  h.mono fun _ _ ⟨he, hm⟩ => ⟨he, n, hm.symm⟩
theorem quietDrew {P : Program} {f : FuncId} {args : Array Value} {w : World} {n : Nat} {v : Value}
    (h : Calls P f args (w.drewN n) fun e w' => e = .returned v ∧ ∃ m, w' = (w.drewN n).drewN m) : Calls P f args (w.drewN n) fun e w'' => e = .returned v ∧ ∃ m, w'' = w.drewN m := Calls.quiet_of h

section
variable {w : World} {b : Nat} {S : Nat → Prop} {keys : List ByteArray} {pl : Nat}

theorem ListAt.drewN (h : ListAt w b S keys pl) (n : Nat) : ListAt (w.drewN n) b S keys pl := h.modNil ((Mod.refl _ _).drewN n)

theorem list_First (h : ListAt w b S keys pl) :
    Calls Try.prog 40 #[.pointer (some ⟨b, 0, none⟩)] w fun e w' => e = .returned (.tuple #[.string (keys.head?.getD ⟨#[]⟩), .bool (decide (0 < keys.length))]) ∧ ∃ n, w' = w.drewN n := by
  have h0 := h
  obtain ⟨ab, ac, mb, ev, cur, K, N, L, E, m, idx, h⟩ := h
  obtain ⟨c0, c1, c2, _, _⟩ := h.cells
  have hn := h.ring.next_lt
  have hac := h.nac
  have hm := h.acm
  unfold maxLen at hm
  have p0 := h.arena.at _ _ (h.pl 0 (by omega)).2.1
  have p1 := h.arena.at _ _ (h.pl (N 0) hn.1).1
  rw [h.ring.first] at p1
  have hN := hn.1
  have hN2 : (N 0 : Int) < ((pl + 1 : Nat) : Int) := by omega
  clear h hn
  have H0 := hid h0
  clear h0
  go_enter Try.func40, Try.ntmps40
  go_wp2_with (fail)
  go_quiet ((go_at_call 35; exact quietSame (list_Len (H0.out.drewN _))))
  go_wp2
  go_ret2
  exact ⟨by simp, _, rfl⟩

theorem list_Last (h : ListAt w b S keys pl) :
    Calls Try.prog 37 #[.pointer (some ⟨b, 0, none⟩)] w fun e w' => e = .returned (.tuple #[.string (keys.getLast?.getD ⟨#[]⟩), .bool (decide (0 < keys.length))]) ∧ ∃ n, w' = w.drewN n := by
  have h0 := h
  obtain ⟨ab, ac, mb, ev, cur, K, N, L, E, m, idx, h⟩ := h
  obtain ⟨c0, c1, c2, _, _⟩ := h.cells
  have hn := h.ring.next_lt
  have hac := h.nac
  have hm := h.acm
  unfold maxLen at hm
  have p0 := h.arena.at _ _ (h.pl 0 (by omega)).2.2
  have p1 := h.arena.at _ _ (h.pl (L 0) hn.2).1
  rw [h.ring.last] at p1
  have hN := hn.2
  have hN2 : (L 0 : Int) < ((pl + 1 : Nat) : Int) := by omega
  clear h hn
  have H0 := hid h0
  clear h0
  go_enter Try.func37, Try.ntmps37
  go_wp2_with (fail)
  go_quiet ((go_at_call 35; exact quietSame (list_Len (H0.out.drewN _))))
  go_wp2
  go_ret2
  exact ⟨by simp, _, rfl⟩

theorem rm_last {keys : List ByteArray} (hn : keys.Nodup) {x : ByteArray} (hx : keys.getLast? = some x) : rm keys x = keys.dropLast := by
  obtain ⟨ys, rfl⟩ := List.getLast?_eq_some_iff.1 hx
  rw [List.nodup_append] at hn
  rw [rm_append, rm_same, List.append_nil, List.dropLast_concat]
  exact List.filter_eq_self.2 fun y hy => by simpa using hn.2.2 y hy x (by simp)

theorem list_Pop (h : ListAt w b S keys pl) (hb : pl ≤ 1000000000) :
    Calls Try.prog 38 #[.pointer (some ⟨b, 0, none⟩)] w fun e w' => e = .returned (.tuple #[.string (keys.getLast?.getD ⟨#[]⟩), .bool (decide (0 < keys.length))]) ∧ Left w w' b S keys.dropLast pl := by
  have H := hid h
  by_cases h0 : keys.length = 0
  · have hk : keys = [] := List.eq_nil_of_length_eq_zero h0
    subst hk
    clear h h0
    go_enter Try.func38, Try.ntmps38
    go_wp2_with (go_at_call 37; refine (list_Last H.out).mono ?_; rintro e w1 ⟨rfl, n, rfl⟩)
    go_ret2
    exact ⟨rfl, (Mod.refl _ _).drewN n, S, fun k q => .inl q, H.out.drewN n⟩
  · obtain ⟨x, hx⟩ : ∃ x, keys.getLast? = some x := by
      cases hg : keys.getLast? with
      | none => rw [List.getLast?_eq_none_iff] at hg; subst hg; simp at h0
      | some x => exact ⟨x, rfl⟩
    have hmem : x ∈ keys := List.mem_of_getLast? hx
    have hd : decide (0 < keys.length) = true := by simp; omega
    have hrm := rm_last h.uniq hx
    rw [hx, hd]
    have HR := hid hrm
    have HX := hid hx
    clear h h0 hx hrm
    have hl : Calls Try.prog 37 #[.pointer (some ⟨b, 0, none⟩)] w fun e w' => e = .returned (.tuple #[.string x, .bool true]) ∧ ∃ n, w' = w.drewN n := by
      have := list_Last H.out
      rw [HX.out, hd] at this
      exact this
    have HL := hid hl
    clear hl hd
    go_enter Try.func38, Try.ntmps38
    go_wp2_with (first
      | (go_at_call 37; refine HL.out.mono ?_; rintro e w1 ⟨rfl, n, rfl⟩)
      | (go_at_call 33; refine (list_Remove (H.out.drewN n) hb x).mono ?_; rintro e w1 ⟨rfl, hm, S', hs, hl⟩))
    go_ret2
    exact ⟨rfl, ((Mod.refl S w).drewN n).trans hm, S', hs, by rw [← HR.out]; exact hl⟩

theorem list_New : Calls Try.prog 28 #[] w fun e w' => ∃ b, e = .returned (.pointer (some ⟨b, 0, none⟩)) ∧ Mod Nil w w' ∧ ∃ S', (∀ k, S' k → w.heap.size ≤ k) ∧ ListAt w' b S' [] 0 := by
  have hmk : ∀ w : World, (Instr.makeSlice 75 (.int .i64 1) (.int .i64 1)).run Try.prog w = .ok (.slice (some ⟨w.heap.size, 0, none⟩) 1 1) (w.alloc (.cells #[.string ⟨#[]⟩, .int .i64 0, .int .i64 0] 81)) := fun _ => by kernel_rfl
  have hmm := @run_makeMap Try.prog
  go_enter Try.func28, Try.ntmps28
  go_wp2
  go_ret
  refine ⟨w.heap.size + 1 + 1, by simp, (((Mod.refl Nil w).alloc _).alloc _).alloc _, fun k => w.heap.size ≤ k, fun k q => q, w.heap.size, 1, w.heap.size + 1, .slice none 0 0, [.string ⟨#[]⟩, .int .i64 0, .int .i64 0], fun _ => ⟨#[]⟩, fun _ => 0, fun _ => 0, [], [], [], ⟨⟨?_, ?_, rfl, Nat.le_refl _, by unfold maxLen; omega, Row.nil _ _ _ _, ?_, ⟨by omega, by omega, by omega⟩⟩, ?_, Ring.new⟩⟩
  · have := Blk.new ((w.alloc (.cells #[.string ⟨#[]⟩, .int .i64 0, .int .i64 0] 81)).alloc (.map #[] 0)) [.slice (some ⟨w.heap.size, 0, none⟩) 1 1, .slice none 0 0, .map (some (w.heap.size + 1))] 78
    simpa using this
  · exact ((Blk.new w [.string ⟨#[]⟩, .int .i64 0, .int .i64 0] 81).alloc _).alloc _
  · have := (MapAt.new Value.string (fun i : Nat => .int .i64 (i : Int)) (w.alloc (.cells #[.string ⟨#[]⟩, .int .i64 0, .int .i64 0] 81))).alloc (.cells #[.slice (some ⟨w.heap.size, 0, none⟩) 1 1, .slice none 0 0, .map (some (w.heap.size + 1))] 78)
    simpa using this
  · intro j hj
    have : j = 0 := by omega
    subst this
    exact ⟨rfl, rfl, rfl⟩
end
end Go.Proofs.Ythbffkdfahlpdaa
