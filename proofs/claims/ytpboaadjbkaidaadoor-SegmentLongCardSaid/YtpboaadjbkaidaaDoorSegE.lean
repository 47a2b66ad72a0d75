
/-
  A string backwards, the program's.
-/
import Derived.Test.YtpboaadjbkaidaaDoorMatchA
import Derived.Test.YtpboaadjbkaidaaDoorMathRv
import Derived.Test.YtpboaadjbkaidaaDoorMathBreaks
namespace Go.Proofs.YtpboaadjbkaidaaDoor
set_option maxRecDepth 100000
open Go.RowKit

theorem u8_info6 : (Tryd.prog.info? 5).map (fun i => (i.zero, i.size, i.bytes)) = some (some (.int .u8 0), 1, 1) := by kernel_rfl
theorem run_rev (s : ByteArray) (src dst : TypeId) {e : TypeId} (hs : Tryd.prog.underlying src = some (.slice e)) (he : Tryd.prog.underlying e = some (.int .u8)) (hd : Tryd.prog.underlying dst = some .string) (w : World) (g : Nat)
    (h : w.rowIs g e s.size (fun j => .int .u8 (bt s (s.size - 1 - j) : Int))) : (convert src dst (.slice (some ⟨g, 0, none⟩) s.size s.size)).run Tryd.prog w = .ok (.string (rvS s s.size)) w := by
  have hl : s.data.toList.length = s.size := (Lib.size_eq s).symm
  have := run_convert_bytes_back (P := Tryd.prog) w src dst e ⟨g, 0, none⟩ s.size s.data.toList.reverse hs he hd (fun j hj => by
    have hj2 : j < s.size := by simpa [hl] using hj
    rw [Addr.add_lit, Nat.zero_add, h.cell hj2]
    congr 2
    rw [List.getElem_reverse]
    unfold bt
    rw [List.getD_eq_getElem?_getD, List.getElem?_eq_getElem (by omega)]
    simp [hl])
  rw [List.length_reverse, hl] at this
  rw [this]
  congr 2
  unfold rvS
  rw [Nat.sub_self, List.drop_zero]

set_option maxRecDepth 100000 in
set_option maxHeartbeats 8000000 in
theorem reversed_any (s : ByteArray) (w : World) (hs : s.size ≤ 1048576) : Calls Tryd.prog 49 #[.string s] w fun e w' => e = .returned (.string (rvS s s.size)) ∧ Below w.heap.size w w' := by
  have hmk := fun w => run_make_row' (P := Tryd.prog) 23 5 (.int .u8 0) 1 Tryd.underlying23 u8_info6 rfl .i64 .i64 s.size (by omega) (by omega) w
  have HCV := Lib.hid (run_rev s 23 9 Tryd.underlying23 Tryd.underlying5 Tryd.underlying9)
  go_enter Tryd.func49, Tryd.ntmps49
  have HR0 : Hid ((w.alloc (.cells (madeCells #[.int .u8 0] s.size) 5)).rowIs w.heap.size 5 s.size (fun j => .int .u8 (if j < 0 then (bt s (s.size - 1 - j) : Int) else 0))) := (World.rowIs_made w (.int .u8 0) s.size 5).congr fun j _ => by rw [if_neg (Nat.not_lt_zero j)]
  have HB0 := Lib.hid ((Below.refl w.heap.size w).alloc (Nat.le_refl _) (.cells (madeCells #[.int .u8 0] s.size) 5))
  go_upto_region 2 with fail
  generalize hg : w.heap.size = g at HR0 ⊢
  generalize w.alloc (.cells (madeCells #[.int .u8 0] s.size) 5) = w1 at HR0 HB0 ⊢
  go_wp2_with fail
  go_loopg [10] s.size (fun gk kv wr => ∃ k : Nat, k ≤ s.size ∧ kv = .int .i64 k ∧ Hid (wr.rowIs g 5 s.size (fun j => .int .u8 (if j < k then (bt s (s.size - 1 - j) : Int) else 0))) ∧ Hid (Below w.heap.size w wr) ∧ s.size - k ≤ gk)
  case atStart => exact ⟨0, by omega, rfl, HR0.out, HB0.out, by omega⟩
  case round =>
    clear HR0 HB0
    obtain ⟨k, hk, rfl, HR, HB, hgk⟩ := hrel
    by_cases hkl : k < s.size
    · have hki : (k : Int) < (s.size : Int) := by omega
      obtain ⟨j, hj⟩ : ∃ j, j + k + 1 = s.size := ⟨s.size - 1 - k, by omega⟩
      have r0 := HR.out.cell (i := k) hkl
      have rf := HR.out.frozen k
      rw [if_neg (Nat.lt_irrefl k)] at r0
      have hjs : (j : Int) < (s.size : Int) := by omega
      have hjl : j < s.size := by omega
      have hj0 : (0 : Int) ≤ (j : Int) := by omega
      have HR1 : Hid ((wr.setCell ⟨g, k, none⟩ (.int .u8 (s[j].toNat : Int))).rowIs g 5 s.size (fun j => .int .u8 (if j < k + 1 then (bt s (s.size - 1 - j) : Int) else 0))) := (HR.out.set k (.int .u8 (s[j].toNat : Int))).congr fun i hi => by
        by_cases h : i = k
        · rw [if_pos h, if_pos (by omega), h, show s.size - 1 - k = j by omega, bt_get s j hjl]
        · rw [if_neg h]
          by_cases h2 : i < k
          · rw [if_pos h2, if_pos (by omega)]
          · rw [if_neg h2, if_neg (by omega)]
      obtain ⟨z, hz⟩ : ∃ z : Int, z = (s.size : Int) - 1 - (k : Int) := ⟨_, rfl⟩
      have hzj : z = (j : Int) := by omega
      subst hzj
      have hz2 : (s.size : Int) - 1 - (k : Int) = (j : Int) := hz.symm
      clear hz
      go_wp2_with fail
      go_roundg (s.size - (k + 1))
      case measure => omega
      case rel => exact ⟨k + 1, by omega, by go_num, HR1.out, HB.out.setCell (p := ⟨g, k, none⟩) (show w.heap.size ≤ g by omega) _, Nat.le_refl _⟩
    · obtain rfl : k = s.size := by omega
      have hki : ¬ (s.size : Int) < (s.size : Int) := by omega
      have hcv := HCV.out wr g (HR.out.congr fun j hj => by rw [if_pos hj])
      go_wp2_with fail
      go_ret
      exact ⟨rfl, hg ▸ HB.out⟩

end Go.Proofs.YtpboaadjbkaidaaDoor
