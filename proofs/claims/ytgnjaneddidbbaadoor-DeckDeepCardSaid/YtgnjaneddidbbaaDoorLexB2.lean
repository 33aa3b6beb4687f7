/-
  strconv.ParseUint with base 10 and 31 bits, of digits alone; strings.IndexByte.
-/
import Derived.Test.YtgnjaneddidbbaaDoorLexB
import Derived.Lib.IndexLaws
import Derived.Lib.Bytealg
namespace Go.Proofs.YtgnjaneddidbbaaDoor
open Go Go.RowKit

/-- What digits alone parse as. -/
theorem parse_digits (M : Nat) (hM : M < 1844674407370955162) : ∀ (l : List UInt8) (acc : Nat), (∀ b ∈ l, digitB b.toNat = true) → acc ≤ M →
    Lib.parseUintM M acc l = if decVal acc l ≤ M then .ok (decVal acc l) else .range := by
  intro l
  induction l with
  | nil => intro acc _ ha; rw [Lib.parseUintM, decVal_nil, if_pos ha]
  | cons c r ih =>
    intro acc hd ha
    have hc := hd c (List.mem_cons_self ..)
    simp only [digitB, decide_eq_true_eq] at hc
    have h0 : 48 ≤ c.toNat ∧ c.toNat ≤ 57 := by omega
    rw [Lib.parseUintM, if_pos h0, if_neg (by omega), decVal_cons, show decStep acc c = acc * 10 + (c.toNat - 48) from rfl]
    by_cases hov : M < acc * 10 + (c.toNat - 48)
    · rw [if_pos hov, if_neg]
      have := decVal_ge r (acc * 10 + (c.toNat - 48))
      omega
    · rw [if_neg hov]
      exact ih _ (fun b hb => hd b (List.mem_cons_of_mem _ hb)) (by omega)

theorem bytesWorld_below (w : World) (e : TypeId) (s : ByteArray) : Below w.heap.size w (Lib.bytesWorld w e s) := by
  refine ⟨rfl, rfl, rfl, ?_, fun k hk => ?_⟩
  · unfold Lib.bytesWorld World.freeze
    split <;> simp
  · unfold Lib.bytesWorld World.freeze
    have h0 : (w.drew.alloc (.cells (Lib.bytesCells w e s) e)).heap[k]? = w.heap[k]? := Below.heap_alloc w.drew _ k hk
    split
    · exact h0
    · simp only [Array.getElem?_modify]
      rw [if_neg (by omega)]
      exact h0

set_option maxHeartbeats 400000 in
/-- strconv.ParseUint(t, 10, 31), t digits that spell a number that fits. -/
theorem parse_ok (t : ByteArray) (n : Nat) (hne : t.size ≠ 0) (hmax : t.size ≤ 9223372036854775806) (hv : Lib.parseUintM 2147483647 0 t.data.toList = .ok n) (w : World) :
    Calls Tryd.prog 27 #[.string t, .int .i64 10, .int .i64 31] w fun e w' => e = .returned (.tuple #[.int .u64 n, .nilIface]) ∧ Below w.heap.size w w' := by
  have hc := parse31 t hne hmax w
  rw [hv] at hc
  simp only [Lib.uintTupleM] at hc
  have HB : Hid (Below w.heap.size w (Lib.bytesWorld w 5 t)) := bytesWorld_below w _ t
  have HC := Lib.hid hc
  clear hc hv
  generalize Lib.bytesWorld w 5 t = W1 at HB HC
  go_enter Tryd.func27, Tryd.ntmps27
  go_wp2_with (go_at_call 45; refine HC.out.mono ?_; rintro e w' ⟨rfl, rfl⟩)
  go_ret2
  exact ⟨rfl, HB⟩

def BigEnd (e : Ending) : Prop := ∃ N, e = .returned (.tuple #[.int .u64 2147483647, .iface 114 (.pointer (some ⟨N, 0, none⟩))])

set_option maxHeartbeats 400000 in
/-- strconv.ParseUint(t, 10, 31), t digits that spell a number that does not fit. -/
theorem parse_big (t : ByteArray) (hne : t.size ≠ 0) (hmax : t.size ≤ 281474976710656) (hv : Lib.parseUintM 2147483647 0 t.data.toList = .range) (w : World) (hg : Good w) :
    Calls Tryd.prog 27 #[.string t, .int .i64 10, .int .i64 31] w fun e w' => BigEnd e ∧ Below w.heap.size w w' := by
  have hc := parse31 t hne (by omega) w
  rw [hv] at hc
  simp only [Lib.uintTupleM] at hc
  have hb := bytesWorld_below w 5 t
  have hg1 := hg.at hb
  have HB : Hid (Below w.heap.size w (Lib.bytesWorld w 5 t)) := hb
  have HC := Lib.hid hc
  clear hc hv hb hg
  generalize Lib.bytesWorld w 5 t = W1 at HB HC hg1
  obtain ⟨ev, he1, he2⟩ := hg1.rng
  have HE : Hid (W1.cell? ⟨2, 0, none⟩ = some ev) := he1
  clear he1
  go_enter Tryd.func27, Tryd.ntmps27
  go_wp2_with (first
    | (go_at_call 45; refine HC.out.mono ?_; rintro e w' ⟨rfl, rfl⟩)
    | (go_at_call 46; refine (Tryd.strconv_toError_range _ _ _ _ ev _ hmax HE.out he2).mono ?_; rintro e w' ⟨N, rfl, _, _, hb2⟩))
  go_ret2
  exact ⟨⟨_, rfl⟩, HB.out.trans (hb2.mono HB.out.size)⟩

theorem index_of (s : ByteArray) (c : Int) (n : Int) (w : World) (h : Hid (Lib.indexByte s.data.toList c.toNat.toUInt8 = n)) :
    Calls Tryd.prog 22 #[.string s, .int .u8 c] w fun e w' => e = .returned (.int .i64 n) ∧ w = w' := by
  rw [← h.out]
  exact (Tryd.strings_IndexByte s c w).mono fun _ _ ⟨he, hw⟩ => ⟨he, hw.symm⟩

theorem index_sign (c : UInt8) : decide (0 ≤ Lib.indexByte [40, 41, 44, 61, 47, 59] c) = signB c.toNat := by
  have : ∀ n : Fin 256, decide (0 ≤ Lib.indexByte [40, 41, 44, 61, 47, 59] (UInt8.ofNat n.val)) = signB (UInt8.ofNat n.val).toNat := by decide +kernel
  simpa using this ⟨c.toNat, c.toNat_lt⟩

theorem index_remark (l : List UInt8) : (Lib.indexByte l 10 = -1 ∧ remark l = l) ∨ (Lib.indexByte l 10 = ((remark l).length : Int) ∧ (remark l).length < l.length) := by
  have hge := Lib.indexByte_ge l 10
  rcases (show Lib.indexByte l 10 < 0 ∨ 0 ≤ Lib.indexByte l 10 by omega) with h | h
  · have h1 : Lib.indexByte l 10 = -1 := by omega
    exact .inl ⟨h1, remark_all l (Lib.indexByte_none h1)⟩
  · obtain ⟨o, ho⟩ := Int.eq_ofNat_of_zero_le h
    obtain ⟨h1, h2⟩ := Lib.indexByte_some ho
    have hol : o < l.length := (List.getElem?_eq_some_iff.1 h1).1
    have hr := remark_len l o h1 h2
    exact .inr ⟨by rw [ho, hr], by omega⟩

end Go.Proofs.YtgnjaneddidbbaaDoor
