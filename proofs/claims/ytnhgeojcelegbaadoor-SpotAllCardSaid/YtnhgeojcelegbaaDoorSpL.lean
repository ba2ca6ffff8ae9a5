/- Spot's laws: what every statement asks ahead. -/
import Derived.Test.YtnhgeojcelegbaaDoorSpJ
namespace Go.Proofs.YtnhgeojcelegbaaDoor
open Go.RowKit Go.Lib

theorem bg1 : refTextL ⟨9, 26, false, false⟩ = [65, 65, 49, 48] ∧ refTextE ⟨9, 26, false, false⟩ = 0 := by
  constructor
  · have e : decDigits 10 = [49, 48] := by rw [decDigits, dif_neg (by decide), decDigits, dif_pos (by decide)]; rfl
    simp [refTextL, placeB, pinL, lettersL, e]
  · simp [refTextE, placeB]
theorem bg2 : refAns [36, 97, 98, 36, 49, 50, 43, 49] = ⟨⟨11, 27, true, true⟩, 6, 0⟩ := by kernel_rfl
theorem bg3 : spotAns [90, 90, 54, 53, 53, 51, 54] = (65535, 701, 0) := by kernel_rfl
theorem bg4 : areaAns [98, 50, 58, 36, 65, 36, 49] = (⟨0, 0, 1, 1⟩, 0) := by kernel_rfl
theorem bg5 : spotAns [98, 55] = (0, 0, 20) := by kernel_rfl
theorem bg6 : areaAns [65, 49, 58, 65, 65, 65, 49] = (⟨0, 0, 0, 0⟩, 10) := by kernel_rfl
set_option maxRecDepth 100000 in
set_option maxHeartbeats 4000000 in
theorem begun2_any (w : World) (L : LaidW w) : Calls Tryd.prog 19 #[] w fun e w' => e = .returned (.bool true) ∧ Below w.heap.size w w' := by
  have HL := Lib.hid L
  clear L
  go_enter Tryd.func19, Tryd.ntmps19
  go_wp2_with fail
  refine (spText_any 9 26 w HL.out).mono ?_
  rintro e w1 ⟨he, b1⟩
  rw [bg1.1, bg1.2, show strB [65, 65, 49, 48] = (⟨#[65, 65, 49, 48]⟩ : ByteArray) from rfl] at he
  subst he
  have B1 := Lib.hid b1
  clear b1
  go_wp2_with fail
  refine (readRef_any ⟨#[36, 97, 98, 36, 49, 50, 43, 49]⟩ w1 (HL.out.kept B1.out) (by decide)).mono ?_
  rintro e w2 ⟨he, b2⟩
  rw [show (⟨#[36, 97, 98, 36, 49, 50, 43, 49]⟩ : ByteArray).data.toList = [36, 97, 98, 36, 49, 50, 43, 49] from rfl, bg2] at he
  subst he
  have B2 := Lib.hid (B1.out.trans (b2.mono B1.out.size))
  clear b2
  simp only [RefVal]
  go_wp2_with fail
  have B2a := Lib.hid (ext_alloc B2.out (.cells #[.int .i64 11, .int .i64 27, .bool true, .bool true] 28))
  refine (spRead_any ⟨#[90, 90, 54, 53, 53, 51, 54]⟩ _ (HL.out.kept B2a.out) (by decide)).mono ?_
  rintro e w3 ⟨he, b3⟩
  rw [show (⟨#[90, 90, 54, 53, 53, 51, 54]⟩ : ByteArray).data.toList = [90, 90, 54, 53, 53, 51, 54] from rfl, bg3] at he
  subst he
  obtain ⟨z3, k3⟩ := kept_block b3
  have B3 := Lib.hid (B2a.out.trans (b3.mono B2a.out.size))
  clear b3
  go_wp2_with fail
  have B3a := Lib.hid (ext_alloc B3.out (.cells #[.int .i64 65535, .int .i64 701] 39))
  refine (readArea_any ⟨#[98, 50, 58, 36, 65, 36, 49]⟩ _ (HL.out.kept B3a.out) (by decide)).mono ?_
  rintro e w4 ⟨he, b4⟩
  rw [show (⟨#[98, 50, 58, 36, 65, 36, 49]⟩ : ByteArray).data.toList = [98, 50, 58, 36, 65, 36, 49] from rfl, bg4] at he
  subst he
  obtain ⟨z4, k4⟩ := kept_block b4
  have k3' : ∀ o, w4.cell? ⟨w2.heap.size, o, none⟩ = (#[.int .i64 11, .int .i64 27, .bool true, .bool true] : Array Value)[o]? := fun o => (b4.cell (p := ⟨w2.heap.size, o, none⟩) (by simp; omega)).trans ((World.cell?_alloc_past _ _ _ z3).trans (k3 o))
  have B4 := Lib.hid (B3a.out.trans (b4.mono B3a.out.size))
  clear b4 k3
  go_wp2_with fail
  have B4a := Lib.hid (ext_alloc B4.out (.cells #[.int .i64 0, .int .i64 0, .int .i64 1, .int .i64 1] 52))
  refine (spRead_any ⟨#[98, 55]⟩ _ (HL.out.kept B4a.out) (by decide)).mono ?_
  rintro e w5 ⟨he, b5⟩
  rw [show (⟨#[98, 55]⟩ : ByteArray).data.toList = [98, 55] from rfl, bg5] at he
  subst he
  obtain ⟨z5, k5⟩ := kept_block b5
  have k3 : ∀ o, w5.cell? ⟨w2.heap.size, o, none⟩ = (#[.int .i64 11, .int .i64 27, .bool true, .bool true] : Array Value)[o]? := fun o => (b5.cell (p := ⟨w2.heap.size, o, none⟩) (by simp; omega)).trans ((World.cell?_alloc_past _ _ _ (by omega)).trans (k3' o))
  have k4' : ∀ o, w5.cell? ⟨w3.heap.size, o, none⟩ = (#[.int .i64 65535, .int .i64 701] : Array Value)[o]? := fun o => (b5.cell (p := ⟨w3.heap.size, o, none⟩) (by simp; omega)).trans ((World.cell?_alloc_past _ _ _ z4).trans (k4 o))
  have B5 := Lib.hid (B4a.out.trans (b5.mono B4a.out.size))
  clear b5 k3' k4
  go_wp2_with fail
  have B5a := Lib.hid (ext_alloc B5.out (.cells #[.int .i64 0, .int .i64 0] 39))
  refine (readArea_any ⟨#[65, 49, 58, 65, 65, 65, 49]⟩ _ (HL.out.kept B5a.out) (by decide)).mono ?_
  rintro e w6 ⟨he, b6⟩
  rw [show (⟨#[65, 49, 58, 65, 65, 65, 49]⟩ : ByteArray).data.toList = [65, 49, 58, 65, 65, 65, 49] from rfl, bg6] at he
  subst he
  have j3 : ∀ o, w6.cell? ⟨w2.heap.size, o, none⟩ = (#[.int .i64 11, .int .i64 27, .bool true, .bool true] : Array Value)[o]? := fun o => (b6.cell (p := ⟨w2.heap.size, o, none⟩) (by simp; omega)).trans ((World.cell?_alloc_past _ _ _ (by omega)).trans (k3 o))
  have j4 : ∀ o, w6.cell? ⟨w3.heap.size, o, none⟩ = (#[.int .i64 65535, .int .i64 701] : Array Value)[o]? := fun o => (b6.cell (p := ⟨w3.heap.size, o, none⟩) (by simp; omega)).trans ((World.cell?_alloc_past _ _ _ (by omega)).trans (k4' o))
  have j5 : ∀ o, w6.cell? ⟨w4.heap.size, o, none⟩ = (#[.int .i64 0, .int .i64 0, .int .i64 1, .int .i64 1] : Array Value)[o]? := fun o => (b6.cell (p := ⟨w4.heap.size, o, none⟩) (by simp; omega)).trans ((World.cell?_alloc_past _ _ _ z5).trans (k5 o))
  have z6 := (kept_block b6).1
  have B6 := Lib.hid (B5a.out.trans (b6.mono B5a.out.size))
  clear b6 k3 k4' k5
  have B6a := Lib.hid (ext_alloc B6.out (.cells #[.int .i64 0, .int .i64 0, .int .i64 0, .int .i64 0] 52))
  have p3 : ∀ o, (w6.alloc (.cells #[.int .i64 0, .int .i64 0, .int .i64 0, .int .i64 0] 52)).cell? ⟨w2.heap.size, o, none⟩ = (#[.int .i64 11, .int .i64 27, .bool true, .bool true] : Array Value)[o]? := fun o => (World.cell?_alloc_past _ _ _ (by omega)).trans (j3 o)
  have p4 : ∀ o, (w6.alloc (.cells #[.int .i64 0, .int .i64 0, .int .i64 0, .int .i64 0] 52)).cell? ⟨w3.heap.size, o, none⟩ = (#[.int .i64 65535, .int .i64 701] : Array Value)[o]? := fun o => (World.cell?_alloc_past _ _ _ (by omega)).trans (j4 o)
  have p5 : ∀ o, (w6.alloc (.cells #[.int .i64 0, .int .i64 0, .int .i64 0, .int .i64 0] 52)).cell? ⟨w4.heap.size, o, none⟩ = (#[.int .i64 0, .int .i64 0, .int .i64 1, .int .i64 1] : Array Value)[o]? := fun o => (World.cell?_alloc_past _ _ _ (by omega)).trans (j5 o)
  go_wp2_with fail
  refine (spMay_any 65535 701 _).mono ?_
  rintro e w7 ⟨he, b7⟩
  rw [show placeB ⟨65535, 701, false, false⟩ = true from rfl] at he
  subst he
  have B7 := Lib.hid (B6a.out.trans (b7.mono B6a.out.size))
  clear b7
  go_wp2_with fail
  refine (spMay_any 65536 0 _).mono ?_
  rintro e w8 ⟨he, b8⟩
  rw [show placeB ⟨65536, 0, false, false⟩ = false from rfl] at he
  subst he
  have B8 := Lib.hid (B7.out.trans (b8.mono B7.out.size))
  clear b8
  go_wp2
  go_ret
  exact ⟨rfl, B8.out⟩
end Go.Proofs.YtnhgeojcelegbaaDoor
