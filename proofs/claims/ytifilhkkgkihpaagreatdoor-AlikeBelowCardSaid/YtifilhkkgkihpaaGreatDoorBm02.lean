/- Walks and plain facts. -/
import Derived.Test.YtifilhkkgkihpaaGreatDoorAs20
import Derived.Test.YtifilhkkgkihpaaGreatDoorAs04
import Derived.Test.YtifilhkkgkihpaaGreatDoorAs19
set_option linter.unusedSimpArgs false
set_option linter.unusedVariables false
namespace Go.Proofs.YtifilhkkgkihpaaGreatDoor
open Go.RowKit
set_option maxRecDepth 20000 in
set_option maxHeartbeats 2000000 in
theorem kid_any (w : World) (kd : Int) (na : Option Addr) (nn nc : Nat) (NS : List ByteArray) (ka : Option Addr) (kn kc : Nat) (KS : List Int) (op : Bool) (s : ByteArray) (hN : NamesAt w na nn NS) (hK : IntsAt w ka kn KS) (hn : nn ≤ 100000) (hl : nn = kn) (hr : risesB NS = true) :
    Calls Tryz.prog 109 #[.agg #[.int .i64 kd, .slice na nn nc, .slice ka kn kc, .bool op], .string s] w (IntPost w (findK NS KS s)) := by
  have hxb : (w.alloc (.cells #[.int .i64 kd, .slice na nn nc, .slice ka kn kc, .bool op] 33)).heap[w.heap.size]? = some (.cells #[.int .i64 kd, .slice na nn nc, .slice ka kn kc, .bool op] 33 (0, 0)) := heap_alloc_new w _
  have hba : Below w.heap.size w (w.alloc (.cells #[.int .i64 kd, .slice na nn nc, .slice ka kn kc, .bool op] 33)) := (Below.refl _ _).alloc (Nat.le_refl _) _
  have hbs := bs_names (w.alloc (.cells #[.int .i64 kd, .slice na nn nc, .slice ka kn kc, .bool op] 33)) na nn nc NS s (hN.on hba) hn hr
  have hkk := hK.on hba
  have b1 : (w.alloc (.cells #[.int .i64 kd, .slice na nn nc, .slice ka kn kc, .bool op] 33)).cell? ⟨w.heap.size, 1, none⟩ = some (.slice na nn nc) := by rw [cell_of_row _ _ 1 _ 33 _ hxb]; rfl
  have b2 : (w.alloc (.cells #[.int .i64 kd, .slice na nn nc, .slice ka kn kc, .bool op] 33)).cell? ⟨w.heap.size, 2, none⟩ = some (.slice ka kn kc) := by rw [cell_of_row _ _ 2 _ 33 _ hxb]; rfl
  have HB := Lib.hid hba
  have hfl := find_low NS KS s hr (by rw [← hN.1, ← hK.1]; exact hl)
  rcases hfl with ⟨h1, k, h2, h3, h4⟩ | ⟨h1, h4⟩
  · have hlt : lowN NS s < kn := by rw [hK.1]; exact (List.getElem?_eq_some_iff.1 h2).1
    obtain ⟨gk, ok, rfl, hgk, hck⟩ := hkk.2.resolve_left (by omega)
    have ck := hck _ _ h2
    have hlt2 : ((lowN NS s : Nat) : Int) < kn := by omega
    rw [h1] at hbs
    have HBS := Lib.hid hbs
    have H4 := Lib.hid h4
    clear hbs h1 h2 h3 h4 hck hxb hkk hN hK hr hba hl
    go_enter Tryz.func109, Tryz.ntmps109
    go_upto_region 1 with (fail)
    generalize (w.alloc (.cells #[.int .i64 kd, .slice na nn nc, .slice (some ⟨gk, ok, none⟩) kn kc, .bool op] 33)) = w1 at *
    generalize lowN NS s = p at *
    go_wp2_with (go_at_call 144; refine HBS.out.mono ?_; rintro e w' ⟨rfl, rfl⟩)
    go_ret
    exact ⟨by rw [H4.out]; rfl, HB.out⟩
  · rw [h1] at hbs
    have HBS := Lib.hid hbs
    have H4 := Lib.hid h4
    clear hbs h1 h4 hxb hkk hN hK hr hba hl
    go_enter Tryz.func109, Tryz.ntmps109
    go_wp2_with (go_at_call 144; refine HBS.out.mono ?_; rintro e w' ⟨rfl, rfl⟩)
    go_ret
    exact ⟨by rw [H4.out]; rfl, HB.out⟩
end Go.Proofs.YtifilhkkgkihpaaGreatDoor
