/- Package srlru: keys that come once only. -/
import Derived.Test.YtjijjfdkghcjkaaSrlPureD
import Derived.Test.YtjijjfdkghcjkaaSepI
set_option linter.unusedVariables false
namespace Go.Proofs.Ytjijjfdkghcjkaa
variable {most target : Int} {ns cs gs L rw : LB} {ms : Mks} {key : ByteArray}

theorem SrlI.req2 (h : SrlI most target ns cs gs ms) (key : ByteArray) {x} (hx : srlReq most target ns cs gs ms key = x) :
    x.1 ≤ target + 1 ∧ x.2.2.1.length + x.2.1.length ≤ cs.length + ns.length + 1 ∧ ∀ k, (lk x.2.2.2.2.1 k).isSome = true → k = key ∨ (lk ms k).isSome = true := by
  have r := (h.req key hx).1
  have g0 := h.h0
  suffices H : x.1 ≤ target + 1 ∧ x.2.2.1.length + x.2.1.length ≤ cs.length + ns.length + 1 ∧ ∀ k, k ∈ x.2.2.1 ++ x.2.1 ∨ k ∈ x.2.2.2.1 → k = key ∨ k ∈ cs ++ ns ∨ k ∈ gs by
    refine ⟨H.1, H.2.1, fun k q => ?_⟩
    have q' : k ∈ x.2.2.1 ++ x.2.1 ∨ k ∈ x.2.2.2.1 := ((r.b.mks k).1 q).imp id fun z => z.elim id False.elim
    exact (H.2.2 k q').imp id fun z => (h.b.mks k).2 (z.imp id .inl)
  by_cases hm : most = 0
  · rw [srlReq_zero hm] at hx
    subst hx
    exact ⟨by dsimp only; omega, by dsimp only; omega, fun k q => .inr q⟩
  by_cases hc : key ∈ cs
  · rw [srlReq_a hm hc] at hx
    subst hx
    have := fr_le cs key
    refine ⟨by dsimp only; omega, by dsimp only; omega, fun k q => ?_⟩
    dsimp only at q
    rcases q with q | q
    · rcases List.mem_append.1 q with q | q
      · exact (mem_fr.1 q).imp id fun z => .inl (List.mem_append_left _ z)
      · exact .inr (.inl (List.mem_append_right _ q))
    · exact .inr (.inr q)
  by_cases hn : key ∈ ns
  · rw [srlReq_n hm hc hn] at hx
    have hnd := List.nodup_append.1 h.b.nl
    have e0 : cs ++ rm ns key = rm (cs ++ ns) key := by rw [rm_append, rm_not hc]
    have hB : SrlB (fun k => k = key ∧ True) (cs ++ rm ns key) gs ms := by
      refine ⟨by rw [e0]; exact nodup_rm h.b.nl _, h.b.ng, fun k a => h.b.apart k (by rw [e0] at a; exact (mem_rm.1 a).1), fun k => ?_, fun k q => ?_, h.b.mn⟩
      · rw [h.b.mks, e0, mem_rm]
        by_cases e : k = key
        · subst e; simp [hn]
        · simp [e]
      · rw [e0, q.1]; exact ⟨fun a => (mem_rm.1 a).2 rfl, h.b.apart _ (List.mem_append_right _ hn)⟩
    obtain ⟨a1, a2, a3⟩ := hB.again (most := most) (target := srlUp most target ms key) (hB.out key ⟨rfl, trivial⟩).1 (hB.out key ⟨rfl, trivial⟩).2 rfl
    have hlen := len_rm_lt h.b.nl (List.mem_append_right cs hn)
    have hu : srlUp most target ms key ≤ target + 1 := by
      unfold srlUp; split
      · split <;> omega
      · omega
    have hlen2 := congrArg List.length a2
    rw [e0, List.length_append, List.length_cons] at hlen2
    rw [List.length_append] at hlen
    subst hx
    refine ⟨hu, by dsimp only; omega, fun k q => ?_⟩
    dsimp only at q
    rw [a2, e0] at q
    rcases q with q | q
    · exact (List.mem_cons.1 q).imp id fun z => .inl (mem_rm.1 z).1
    · exact .inr (.inr q)
  · have hcn : key ∉ cs ++ ns := fun q => (List.mem_append.1 q).elim hc hn
    have hd : srlDown target ms key ≤ target := by unfold srlDown; split <;> omega
    rw [srlReq_miss hm hcn rfl] at hx
    obtain ⟨m1, m2, m3, m4, m5, m6, m7⟩ := h.miss hm hcn (srlDown target ms key) rfl
    generalize srlMiss most (srlDown target ms key) ns cs (rm gs key) ms = y at hx m1 m2 m3 m4 m5 m6 m7
    have hR : ∀ k, k ∈ y.2.1 ++ y.1 ∨ k ∈ y.2.2.1 → k ∈ cs ++ ns ∨ k ∈ gs := by
      intro k q
      by_cases hf : ((cs ++ ns).length : Int) < most
      · rw [if_pos hf] at m7; subst m7
        exact q.imp id fun z => (mem_rm.1 z).1
      · rw [if_neg hf] at m7
        obtain ⟨e2, e3, e4, e5, e6⟩ := m7
        rw [e2, e4] at q
        rcases q with q | q
        · exact .inl (mem_dl q)
        · rcases List.mem_cons.1 (List.mem_of_mem_take q) with e | e
          · exact .inl (e ▸ lastMem (by omega))
          · exact .inr (mem_rm.1 e).1
    have hlen : y.2.1.length + y.1.length ≤ cs.length + ns.length := by
      by_cases hf : ((cs ++ ns).length : Int) < most
      · rw [if_pos hf] at m7; subst m7; exact Nat.le_refl _
      · rw [if_neg hf] at m7
        have := congrArg List.length m7.1
        rw [List.length_append, List.length_dropLast, List.length_append] at this
        omega
    by_cases hk : (lk ms key).isSome = true
    · rw [if_pos hk] at hx
      obtain ⟨a1, a2, a3⟩ := m1.again (most := most) (target := srlDown target ms key) m5 m6 rfl
      have hlen2 := congrArg List.length a2
      rw [List.length_append, List.length_cons, List.length_append] at hlen2
      subst hx
      refine ⟨by dsimp only; omega, by dsimp only; omega, fun k q => ?_⟩
      dsimp only at q
      rw [a2] at q
      rcases q with q | q
      · exact (List.mem_cons.1 q).imp id fun z => hR k (.inl z)
      · exact .inr (hR k (.inr q))
    · rw [if_neg hk] at hx
      have := fr_le y.1 key
      subst hx
      refine ⟨by dsimp only; omega, by dsimp only; omega, fun k q => ?_⟩
      dsimp only at q
      rcases q with q | q
      · rcases List.mem_append.1 q with q | q
        · exact .inr (hR k (.inl (List.mem_append_left _ q)))
        · exact (mem_fr.1 q).imp id fun z => hR k (.inl (List.mem_append_right _ z))
      · exact .inr (hR k (.inr q))

/-- Ahead of the scan: keys of other lengths. -/
structure PreI (m t : Int) (ns cs gs : LB) (ms : Mks) (k : Nat) : Prop where
  i : SrlI m t ns cs gs ms
  told : ∀ x, (lk ms x).isSome = true → x.size ≠ 6
  up : t ≤ m / 2 + k
  few : cs.length + ns.length ≤ k
theorem PreI.new {m : Int} (h : 0 ≤ m) : PreI m (m / 2) [] [] [] [] 0 := ⟨SrlI.new h, fun k q => by simp [lk] at q, by simp, by simp⟩
theorem PreI.step {m t : Int} {k : Nat} (h : PreI m t ns cs gs ms k) (hk : key.size ≠ 6) {x} (hx : srlReq m t ns cs gs ms key = x) : PreI m x.1 x.2.1 x.2.2.1 x.2.2.2.1 x.2.2.2.2.1 (k + 1) := by
  obtain ⟨h1, h2, h3⟩ := h.i.req2 key hx
  have := h.up; have := h.few
  exact ⟨(h.i.req key hx).1, fun y q => (h3 y q).elim (fun e => e ▸ hk) (h.told y), by omega, by omega⟩
/-- The j-th key of the scan. -/
def scanKey (j : Nat) : ByteArray := ⟨#[115, 99, 97, 110, 32, UInt8.ofNat j]⟩
theorem scanKey_inj {i j : Nat} (hi : i < 256) (hj : j < 256) (h : scanKey i = scanKey j) : i = j := by
  have h1 : UInt8.ofNat i = UInt8.ofNat j := by
    have := congrArg (fun b : ByteArray => b.data[5]?) h
    simpa [scanKey] using this
  have := congrArg UInt8.toNat h1
  simp at this; omega
theorem scan_bytes (j : Nat) : strOf [(j : Int)] = ⟨#[UInt8.ofNat j]⟩ := rfl
theorem scan_add (j : Nat) : (⟨#[115, 99, 97, 110, 32]⟩ : ByteArray) ++ (⟨#[UInt8.ofNat j]⟩ : ByteArray) = scanKey j := rfl
/-- In the scan, behind j keys. -/
structure ScanI (m t : Int) (ns cs gs : LB) (ms : Mks) (cs0 : LB) (j k : Nat) : Prop where
  i : SrlI m t ns cs gs ms
  told : ∀ x, (lk ms x).isSome = true → x.size ≠ 6 ∨ ∃ z, z < j ∧ x = scanKey z
  up : t ≤ m / 2 + k
  few : cs.length + ns.length ≤ k + j
  same : cs = cs0
  room : (cs0.length : Int) < m
theorem ScanI.start {m t : Int} {k : Nat} (h : PreI m t ns cs gs ms k) (hm : (cs.length : Int) ≠ m) : ScanI m t ns cs gs ms cs 0 k := by
  have := h.i.nums
  exact ⟨h.i, fun x q => .inl (h.told x q), h.up, h.few, rfl, by omega⟩
theorem ScanI.step {m t : Int} {cs0 : LB} {j k : Nat} (h : ScanI m t ns cs gs ms cs0 j k) (hj : j < 256) {x} (hx : srlReq m t ns cs gs ms (scanKey j) = x) :
    ScanI m x.1 x.2.1 x.2.2.1 x.2.2.2.1 x.2.2.2.2.1 cs0 (j + 1) k ∧ x.2.2.2.2.2.1 = false := by
  obtain ⟨h1, h2, h3⟩ := h.i.req2 (scanKey j) hx
  have hu := h.up; have hf := h.few; have hr := h.room; have hs := h.same
  have hn : lk ms (scanKey j) = none := by
    cases e : lk ms (scanKey j) with
    | none => rfl
    | some v =>
      rcases h.told (scanKey j) (by rw [e]; rfl) with q | ⟨z, hz, e2⟩
      · exact absurd rfl q
      · have := scanKey_inj hj (by omega) e2; omega
  obtain ⟨f1, f2, f3, f4⟩ := h.i.fresh (by omega) hn hx
  refine ⟨⟨(h.i.req _ hx).1, fun y q => ?_, by omega, by omega, ?_, hr⟩, f2⟩
  · rcases f3 y q with e | e
    · exact .inr ⟨j, by omega, e⟩
    · exact (h.told y e).imp id fun ⟨z, hz, e⟩ => ⟨z, by omega, e⟩
  · by_cases hf : ((cs ++ ns).length : Int) < m
    · rw [if_pos hf] at f4; rw [f4.2.1, hs]
    · rw [if_neg hf] at f4
      have : 0 < ns.length := by rw [List.length_append] at hf; subst hs; omega
      rw [f4.2.1]; unfold srlC; rw [if_pos this, hs]
theorem keys_tail (cs ns : LB) : ((cs ++ ns).reverse).drop ns.length = cs.reverse := by
  rw [List.reverse_append]
  have := List.drop_left (l₁ := ns.reverse) (l₂ := cs.reverse)
  rwa [List.length_reverse] at this
end Go.Proofs.Ytjijjfdkghcjkaa
