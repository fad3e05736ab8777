/- Texts of proofs: plain words, and walks through the program's functions. -/
import Derived.Test.YtdedlchpjboceaaDoorMa90ebaae
import Derived.Test.YtdedlchpjboceaaDoorM28521413
import Derived.Test.YtdedlchpjboceaaDoorMc63eebcf
import Derived.Test.YtdedlchpjboceaaDoorM2256e532

section
namespace Go.Proofs.YtdedlchpjboceaaDoor.PE
open Go.RowKit Go.Proofs.YtdedlchpjboceaaDoorW.PrintWords Go.Proofs.YtdedlchpjboceaaDoorW.PrintLast Go.Proofs.YtdedlchpjboceaaDoorW.PrintMore
attribute [local go_sem] max2_int min2_int max_two min_two max_three min_three max_four min_four   -- for this text's walks alone
def slotmeshlaw02_head.j0 : Nat → List (S40) → List (S54) → List (S54) → Bool → Option (Bool)
  | 0, _, _, _, _ => none
  | k + 1, x3, x6, x8, x55 => if x55 = true then (some false) else ((slotmeshlaw02_command.f 3 (⟨#[97]⟩ : ByteArray) (([1, 2, (-30), 9] : List Int))).bind fun bt439 => ((slotmeshlaw02_command.f 4 (⟨#[97]⟩ : ByteArray) (([7, 3, 4] : List Int))).bind fun bt448 => ((slotmeshlaw02_command.f 11 (⟨#[]⟩ : ByteArray) (([5] : List Int))).bind fun bt457 => ((some (([(⟨bt439.1, bt439.2.1, bt439.2.2.1, bt439.2.2.2⟩ : S40), (⟨bt448.1, bt448.2.1, bt448.2.2.1, bt448.2.2.2⟩ : S40), (⟨bt457.1, bt457.2.1, bt457.2.2.1, bt457.2.2.2⟩ : S40)] : List (S40)) : List (S40))).bind fun y463 => ((parser_Strip.f x3).bind fun t466 => ((slotmeshref02_Same.f k t466 y463).bind fun t469 => (if t469 = true then ((parser_Valid.f y463).bind fun t470 => (if t470 = true then ((slotmeshlaw02_command.f 11 (⟨#[114, 117, 110]⟩ : ByteArray) (([5] : List Int))).bind fun bt474 => ((parser_Valid.f (([(⟨bt474.1, bt474.2.1, bt474.2.2.1, bt474.2.2.2⟩ : S40)] : List (S40)))).bind fun t483 => (if t483 = true then (some false) else ((slotmeshref02_SameDiags.f k x6 (([(⟨7, 3⟩ : S54), (⟨7, 14⟩ : S54)] : List (S54)))).bind fun t487 => (if t487 = true then ((slotmeshref02_SameDiags.f k x8 (([(⟨7, 6⟩ : S54)] : List (S54)))).bind fun t491 => (some t491)) else (some false)))))) else (some false))) else (some false))))))))
def slotmeshlaw02_head.f (k : Nat)  : Option (Bool) := (parser_Parse.f (⟨#[109, 101, 115, 104, 32, 100, 97, 116, 97, 32, 49, 48, 32, 114, 97, 110, 103, 101, 32, 53, 48, 48, 59, 32, 114, 111, 111, 116, 32, 114, 32, 97, 116, 32, 48, 32, 48, 59]⟩ : ByteArray)).bind fun bt386 => ((parser_Parse.f (⟨#[110, 111, 100, 101, 32, 97, 32, 97, 116, 32, 49, 32, 50, 32, 115, 108, 111, 119, 32, 51, 48, 32, 98, 97, 116, 116, 101, 114, 121, 32, 57, 59, 32, 97, 116, 32, 55, 32, 109, 111, 118, 101, 32, 97, 32, 51, 32, 52, 59, 32, 114, 117, 110, 32, 53, 59]⟩ : ByteArray)).bind fun bt392 => ((parser_Parse.f (⟨#[114, 117, 110, 59, 32, 97, 116, 32, 53, 32, 102, 97, 105, 108]⟩ : ByteArray)).bind fun bt398 => ((parser_Parse.f (⟨#[114, 117, 110, 32, 53, 32, 54, 59, 32, 114, 117, 110, 32, 55, 59]⟩ : ByteArray)).bind fun bt404 => (if (wrap64 ((bt386.2.length : Int) + (bt392.2.length : Int))) > 0 then (slotmeshlaw02_head.j0 k bt392.1 bt398.2 bt404.2 true) else (if (bt386.1.length : Int) = 2 then (if 1 < (bt386.1.length : Int) then (if ((rd_T40 bt386.1 1).f3) = 24 then ((parser_Strip.f bt386.1).bind fun t411 => ((slotmeshlaw02_command.f 1 (⟨#[]⟩ : ByteArray) (([10, 500] : List Int))).bind fun bt417 => ((slotmeshlaw02_command.f 2 (⟨#[114]⟩ : ByteArray) (([0, 0] : List Int))).bind fun bt426 => ((slotmeshref02_Same.f k t411 (([(⟨bt417.1, bt417.2.1, bt417.2.2.1, bt417.2.2.2⟩ : S40), (⟨bt426.1, bt426.2.1, bt426.2.2.1, bt426.2.2.2⟩ : S40)] : List (S40)))).bind fun t435 => (slotmeshlaw02_head.j0 k bt392.1 bt398.2 bt404.2 (!t435)))))) else (slotmeshlaw02_head.j0 k bt392.1 bt398.2 bt404.2 true)) else (none)) else (slotmeshlaw02_head.j0 k bt392.1 bt398.2 bt404.2 true))))))
theorem slotmeshlaw02_head.mono_l : ∀ k, (∀ y0 y1 y2 y3, LeO (slotmeshlaw02_head.j0 k y0 y1 y2 y3) (slotmeshlaw02_head.j0 (k + 1) y0 y1 y2 y3))
  | 0 => fun _ _ _ _ r h => by simp [slotmeshlaw02_head.j0] at h
  | k + 1 => by
    have ih0 := slotmeshlaw02_head.mono_l k
    · intro y0 y1 y2 y3
      unfold slotmeshlaw02_head.j0
      repeat' first
      | (with_reducible exact ih0 _ _ _ _)
      | (with_reducible exact slotmeshref02_Same.mono _ _ _)
      | (with_reducible exact slotmeshref02_SameDiags.mono _ _ _)
      | (with_reducible exact LeO.refl _)
      | (with_reducible exact LeO.none _)
      | (with_reducible refine LeO.ite ?_ ?_)
      | (with_reducible refine LeO.bind ?_ (fun _ => ?_))
      | exact ih0 _ _ _ _
      | exact slotmeshref02_Same.mono _ _ _
      | exact slotmeshref02_SameDiags.mono _ _ _
      | exact LeO.none _
      | refine LeO.ite ?_ ?_
      | refine LeO.bind ?_ (fun _ => ?_)
theorem slotmeshlaw02_head.mono : ∀ k, LeO (slotmeshlaw02_head.f k ) (slotmeshlaw02_head.f (k + 1) ) := by
  intro  k
  have ih0 := slotmeshlaw02_head.mono_l k
  unfold slotmeshlaw02_head.f
  repeat' first
      | (with_reducible exact ih0 _ _ _ _)
      | (with_reducible exact slotmeshref02_Same.mono _ _ _)
      | (with_reducible exact slotmeshref02_SameDiags.mono _ _ _)
      | (with_reducible exact LeO.refl _)
      | (with_reducible exact LeO.none _)
      | (with_reducible refine LeO.ite ?_ ?_)
      | (with_reducible refine LeO.bind ?_ (fun _ => ?_))
      | exact ih0 _ _ _ _
      | exact slotmeshref02_Same.mono _ _ _
      | exact slotmeshref02_SameDiags.mono _ _ _
      | exact LeO.none _
      | refine LeO.ite ?_ ?_
      | refine LeO.bind ?_ (fun _ => ?_)
end Go.Proofs.YtdedlchpjboceaaDoor.PE
end
