/- Sizes, zeros and places of the types. -/
import Derived.Test.YtlgfinchhnbhdaaEngI
import Derived.Test.YtlgfinchhnbhdaaProg
import Derived.KernelRfl
set_option linter.unusedVariables false
namespace Go.Proofs.Ytlgfinchhnbhdaa
open Go Go.RowKit
def bodyOf (fn : Func) : Code := fn.body.getD .skip
theorem mixed : Try.prog.follows .mixedOrders = true := by kernel_rfl
theorem sz1 : (Try.prog.info? 1).map (·.size) = some 1 := by kernel_rfl
theorem zr1 : zeroIs Try.prog 1 (.nilFunc) 1 := by unfold zeroIs; kernel_rfl
theorem sz2 : (Try.prog.info? 2).map (·.size) = some 1 := by kernel_rfl
theorem zr2 : zeroIs Try.prog 2 (.int .i64 0) 1 := by unfold zeroIs; kernel_rfl
theorem sz3 : (Try.prog.info? 3).map (·.size) = some 1 := by kernel_rfl
theorem zr3 : zeroIs Try.prog 3 (.int .i64 0) 1 := by unfold zeroIs; kernel_rfl
theorem sz4 : (Try.prog.info? 4).map (·.size) = some 1 := by kernel_rfl
theorem zr4 : zeroIs Try.prog 4 (.bool false) 1 := by unfold zeroIs; kernel_rfl
theorem sz5 : (Try.prog.info? 5).map (·.size) = some 1 := by kernel_rfl
theorem zr5 : zeroIs Try.prog 5 (.int .u8 0) 1 := by unfold zeroIs; kernel_rfl
theorem sz6 : (Try.prog.info? 6).map (·.size) = some 1 := by kernel_rfl
theorem zr6 : zeroIs Try.prog 6 (.int .u8 0) 1 := by unfold zeroIs; kernel_rfl
theorem sz7 : (Try.prog.info? 7).map (·.size) = some 4 := by kernel_rfl
theorem zr7 : zeroIs Try.prog 7 (.agg [.int .i64 0, .int .i64 0, .bool false, .int .u8 0].toArray) 4 := by unfold zeroIs; kernel_rfl
theorem pl7 {fs : Array Field} (h : Try.prog.underlying 7 = some (.struct fs)) : placesOf Try.prog fs [(0, 1), (1, 1), (2, 1), (3, 1)] := by
  have h1 := Option.some.inj (Try.underlying7.symm.trans h)
  injection h1 with h1
  subst h1
  unfold placesOf
  intro w
  kernel_rfl
theorem sz8 : (Try.prog.info? 8).map (·.size) = some 4 := by kernel_rfl
theorem zr8 : zeroIs Try.prog 8 (.agg [.int .i64 0, .int .i64 0, .bool false, .int .u8 0].toArray) 4 := by unfold zeroIs; kernel_rfl
theorem pl8 {fs : Array Field} (h : Try.prog.underlying 8 = some (.struct fs)) : placesOf Try.prog fs [(0, 1), (1, 1), (2, 1), (3, 1)] := by
  have h1 := Option.some.inj (Try.underlying8.symm.trans h)
  injection h1 with h1
  subst h1
  unfold placesOf
  intro w
  kernel_rfl
theorem sz9 : (Try.prog.info? 9).map (·.size) = some 1 := by kernel_rfl
theorem zr9 : zeroIs Try.prog 9 (.string ByteArray.empty) 1 := by unfold zeroIs; kernel_rfl
theorem sz10 : (Try.prog.info? 10).map (·.size) = some 1 := by kernel_rfl
theorem zr10 : zeroIs Try.prog 10 (.string ByteArray.empty) 1 := by unfold zeroIs; kernel_rfl
theorem sz11 : (Try.prog.info? 11).map (·.size) = some 1 := by kernel_rfl
theorem zr11 : zeroIs Try.prog 11 (.string ByteArray.empty) 1 := by unfold zeroIs; kernel_rfl
theorem sz12 : (Try.prog.info? 12).map (·.size) = some 1 := by kernel_rfl
theorem zr12 : zeroIs Try.prog 12 (.int .u64 0) 1 := by unfold zeroIs; kernel_rfl
theorem sz13 : (Try.prog.info? 13).map (·.size) = some 2 := by kernel_rfl
theorem zr13 : zeroIs Try.prog 13 (.agg [.string ByteArray.empty, .int .u64 0].toArray) 2 := by unfold zeroIs; kernel_rfl
theorem pl13 {fs : Array Field} (h : Try.prog.underlying 13 = some (.struct fs)) : placesOf Try.prog fs [(0, 1), (1, 1)] := by
  have h1 := Option.some.inj (Try.underlying13.symm.trans h)
  injection h1 with h1
  subst h1
  unfold placesOf
  intro w
  kernel_rfl
theorem sz14 : (Try.prog.info? 14).map (·.size) = some 2 := by kernel_rfl
theorem zr14 : zeroIs Try.prog 14 (.agg [.string ByteArray.empty, .int .u64 0].toArray) 2 := by unfold zeroIs; kernel_rfl
theorem pl14 {fs : Array Field} (h : Try.prog.underlying 14 = some (.struct fs)) : placesOf Try.prog fs [(0, 1), (1, 1)] := by
  have h1 := Option.some.inj (Try.underlying14.symm.trans h)
  injection h1 with h1
  subst h1
  unfold placesOf
  intro w
  kernel_rfl
theorem sz15 : (Try.prog.info? 15).map (·.size) = some 1 := by kernel_rfl
theorem zr15 : zeroIs Try.prog 15 (.pointer none) 1 := by unfold zeroIs; kernel_rfl
theorem sz16 : (Try.prog.info? 16).map (·.size) = some 1 := by kernel_rfl
theorem zr16 : zeroIs Try.prog 16 (.pointer none) 1 := by unfold zeroIs; kernel_rfl
theorem sz17 : (Try.prog.info? 17).map (·.size) = some 1 := by kernel_rfl
theorem zr17 : zeroIs Try.prog 17 (.pointer none) 1 := by unfold zeroIs; kernel_rfl
theorem sz18 : (Try.prog.info? 18).map (·.size) = some 1 := by kernel_rfl
theorem zr18 : zeroIs Try.prog 18 (.agg [.pointer none].toArray) 1 := by unfold zeroIs; kernel_rfl
theorem pl18 {fs : Array Field} (h : Try.prog.underlying 18 = some (.struct fs)) : placesOf Try.prog fs [(0, 1)] := by
  have h1 := Option.some.inj (Try.underlying18.symm.trans h)
  injection h1 with h1
  subst h1
  unfold placesOf
  intro w
  kernel_rfl
theorem sz19 : (Try.prog.info? 19).map (·.size) = some 1 := by kernel_rfl
theorem zr19 : zeroIs Try.prog 19 (.agg [.pointer none].toArray) 1 := by unfold zeroIs; kernel_rfl
theorem pl19 {fs : Array Field} (h : Try.prog.underlying 19 = some (.struct fs)) : placesOf Try.prog fs [(0, 1)] := by
  have h1 := Option.some.inj (Try.underlying19.symm.trans h)
  injection h1 with h1
  subst h1
  unfold placesOf
  intro w
  kernel_rfl
theorem sz21 : (Try.prog.info? 21).map (·.size) = some 1 := by kernel_rfl
theorem zr21 : zeroIs Try.prog 21 (.int .i32 0) 1 := by unfold zeroIs; kernel_rfl
theorem sz22 : (Try.prog.info? 22).map (·.size) = some 1 := by kernel_rfl
theorem zr22 : zeroIs Try.prog 22 (.slice none 0 0) 1 := by unfold zeroIs; kernel_rfl
theorem el22 : ElemIs Try.prog 22 26 (.slice none 0 0) 1 24 := ⟨Try.underlying22, by kernel_rfl, rfl, by decide⟩
theorem sz23 : (Try.prog.info? 23).map (·.size) = some 1 := by kernel_rfl
theorem zr23 : zeroIs Try.prog 23 (.slice none 0 0) 1 := by unfold zeroIs; kernel_rfl
theorem el23 : ElemIs Try.prog 23 5 (.int .u8 0) 1 1 := ⟨Try.underlying23, by kernel_rfl, rfl, by decide⟩
theorem sz24 : (Try.prog.info? 24).map (·.size) = some 1 := by kernel_rfl
theorem zr24 : zeroIs Try.prog 24 (.slice none 0 0) 1 := by unfold zeroIs; kernel_rfl
theorem el24 : ElemIs Try.prog 24 3 (.int .i64 0) 1 8 := ⟨Try.underlying24, by kernel_rfl, rfl, by decide⟩
theorem sz25 : (Try.prog.info? 25).map (·.size) = some 1 := by kernel_rfl
theorem zr25 : zeroIs Try.prog 25 (.nilFunc) 1 := by unfold zeroIs; kernel_rfl
theorem sz26 : (Try.prog.info? 26).map (·.size) = some 1 := by kernel_rfl
theorem zr26 : zeroIs Try.prog 26 (.slice none 0 0) 1 := by unfold zeroIs; kernel_rfl
theorem el26 : ElemIs Try.prog 26 114 (.agg [.int .i64 0, .int .i64 0].toArray) 2 16 := ⟨Try.underlying26, by kernel_rfl, rfl, by decide⟩
theorem sz27 : (Try.prog.info? 27).map (·.size) = some 1 := by kernel_rfl
theorem zr27 : zeroIs Try.prog 27 (.int .i64 0) 1 := by unfold zeroIs; kernel_rfl
theorem sz29 : (Try.prog.info? 29).map (·.size) = some 1 := by kernel_rfl
theorem zr29 : zeroIs Try.prog 29 (.nilFunc) 1 := by unfold zeroIs; kernel_rfl
theorem sz31 : (Try.prog.info? 31).map (·.size) = some 1 := by kernel_rfl
theorem zr31 : zeroIs Try.prog 31 (.nilFunc) 1 := by unfold zeroIs; kernel_rfl
theorem sz32 : (Try.prog.info? 32).map (·.size) = some 1 := by kernel_rfl
theorem zr32 : zeroIs Try.prog 32 (.nilFunc) 1 := by unfold zeroIs; kernel_rfl
theorem sz33 : (Try.prog.info? 33).map (·.size) = some 1 := by kernel_rfl
theorem zr33 : zeroIs Try.prog 33 (.slice none 0 0) 1 := by unfold zeroIs; kernel_rfl
theorem el33 : ElemIs Try.prog 33 23 (.slice none 0 0) 1 24 := ⟨Try.underlying33, by kernel_rfl, rfl, by decide⟩
theorem sz35 : (Try.prog.info? 35).map (·.size) = some 1 := by kernel_rfl
theorem zr35 : zeroIs Try.prog 35 (.nilFunc) 1 := by unfold zeroIs; kernel_rfl
theorem sz37 : (Try.prog.info? 37).map (·.size) = some 1 := by kernel_rfl
theorem zr37 : zeroIs Try.prog 37 (.nilFunc) 1 := by unfold zeroIs; kernel_rfl
theorem sz38 : (Try.prog.info? 38).map (·.size) = some 1 := by kernel_rfl
theorem zr38 : zeroIs Try.prog 38 (.nilFunc) 1 := by unfold zeroIs; kernel_rfl
theorem sz39 : (Try.prog.info? 39).map (·.size) = some 1 := by kernel_rfl
theorem zr39 : zeroIs Try.prog 39 (.nilFunc) 1 := by unfold zeroIs; kernel_rfl
theorem sz40 : (Try.prog.info? 40).map (·.size) = some 4 := by kernel_rfl
theorem zr40 : zeroIs Try.prog 40 (.agg [.int .u8 0, .int .u8 0, .int .u8 0, .slice none 0 0].toArray) 4 := by unfold zeroIs; kernel_rfl
theorem pl40 {fs : Array Field} (h : Try.prog.underlying 40 = some (.struct fs)) : placesOf Try.prog fs [(0, 1), (1, 1), (2, 1), (3, 1)] := by
  have h1 := Option.some.inj (Try.underlying40.symm.trans h)
  injection h1 with h1
  subst h1
  unfold placesOf
  intro w
  kernel_rfl
theorem sz41 : (Try.prog.info? 41).map (·.size) = some 4 := by kernel_rfl
theorem zr41 : zeroIs Try.prog 41 (.agg [.int .u8 0, .int .u8 0, .int .u8 0, .slice none 0 0].toArray) 4 := by unfold zeroIs; kernel_rfl
theorem pl41 {fs : Array Field} (h : Try.prog.underlying 41 = some (.struct fs)) : placesOf Try.prog fs [(0, 1), (1, 1), (2, 1), (3, 1)] := by
  have h1 := Option.some.inj (Try.underlying41.symm.trans h)
  injection h1 with h1
  subst h1
  unfold placesOf
  intro w
  kernel_rfl
theorem sz42 : (Try.prog.info? 42).map (·.size) = some 1 := by kernel_rfl
theorem zr42 : zeroIs Try.prog 42 (.slice none 0 0) 1 := by unfold zeroIs; kernel_rfl
theorem el42 : ElemIs Try.prog 42 2 (.int .i64 0) 1 8 := ⟨Try.underlying42, by kernel_rfl, rfl, by decide⟩
theorem sz43 : (Try.prog.info? 43).map (·.size) = some 4 := by kernel_rfl
theorem zr43 : zeroIs Try.prog 43 (.agg [.slice none 0 0, .slice none 0 0, .slice none 0 0, .int .i64 0].toArray) 4 := by unfold zeroIs; kernel_rfl
theorem pl43 {fs : Array Field} (h : Try.prog.underlying 43 = some (.struct fs)) : placesOf Try.prog fs [(0, 1), (1, 1), (2, 1), (3, 1)] := by
  have h1 := Option.some.inj (Try.underlying43.symm.trans h)
  injection h1 with h1
  subst h1
  unfold placesOf
  intro w
  kernel_rfl
theorem sz44 : (Try.prog.info? 44).map (·.size) = some 4 := by kernel_rfl
theorem zr44 : zeroIs Try.prog 44 (.agg [.slice none 0 0, .slice none 0 0, .slice none 0 0, .int .i64 0].toArray) 4 := by unfold zeroIs; kernel_rfl
theorem pl44 {fs : Array Field} (h : Try.prog.underlying 44 = some (.struct fs)) : placesOf Try.prog fs [(0, 1), (1, 1), (2, 1), (3, 1)] := by
  have h1 := Option.some.inj (Try.underlying44.symm.trans h)
  injection h1 with h1
  subst h1
  unfold placesOf
  intro w
  kernel_rfl
theorem sz45 : (Try.prog.info? 45).map (·.size) = some 1 := by kernel_rfl
theorem zr45 : zeroIs Try.prog 45 (.slice none 0 0) 1 := by unfold zeroIs; kernel_rfl
theorem el45 : ElemIs Try.prog 45 73 (.agg [.slice none 0 0, .int .u8 0, .int .i64 0, .int .i64 0, .int .i64 0].toArray) 5 56 := ⟨Try.underlying45, by kernel_rfl, rfl, by decide⟩
theorem sz46 : (Try.prog.info? 46).map (·.size) = some 4 := by kernel_rfl
theorem zr46 : zeroIs Try.prog 46 (.agg [.int .i64 0, .int .i64 0, .int .i64 0, .slice none 0 0].toArray) 4 := by unfold zeroIs; kernel_rfl
theorem pl46 {fs : Array Field} (h : Try.prog.underlying 46 = some (.struct fs)) : placesOf Try.prog fs [(0, 1), (1, 1), (2, 1), (3, 1)] := by
  have h1 := Option.some.inj (Try.underlying46.symm.trans h)
  injection h1 with h1
  subst h1
  unfold placesOf
  intro w
  kernel_rfl
theorem sz47 : (Try.prog.info? 47).map (·.size) = some 4 := by kernel_rfl
theorem zr47 : zeroIs Try.prog 47 (.agg [.int .i64 0, .int .i64 0, .int .i64 0, .slice none 0 0].toArray) 4 := by unfold zeroIs; kernel_rfl
theorem pl47 {fs : Array Field} (h : Try.prog.underlying 47 = some (.struct fs)) : placesOf Try.prog fs [(0, 1), (1, 1), (2, 1), (3, 1)] := by
  have h1 := Option.some.inj (Try.underlying47.symm.trans h)
  injection h1 with h1
  subst h1
  unfold placesOf
  intro w
  kernel_rfl
theorem sz48 : (Try.prog.info? 48).map (·.size) = some 1 := by kernel_rfl
theorem zr48 : zeroIs Try.prog 48 (.nilFunc) 1 := by unfold zeroIs; kernel_rfl
theorem sz49 : (Try.prog.info? 49).map (·.size) = some 1 := by kernel_rfl
theorem zr49 : zeroIs Try.prog 49 (.nilFunc) 1 := by unfold zeroIs; kernel_rfl
theorem sz50 : (Try.prog.info? 50).map (·.size) = some 1 := by kernel_rfl
theorem zr50 : zeroIs Try.prog 50 (.slice none 0 0) 1 := by unfold zeroIs; kernel_rfl
theorem el50 : ElemIs Try.prog 50 129 (.agg [.int .i64 0, .slice none 0 0].toArray) 2 32 := ⟨Try.underlying50, by kernel_rfl, rfl, by decide⟩
theorem sz51 : (Try.prog.info? 51).map (·.size) = some 64 := by kernel_rfl
theorem zr51 : zeroIs Try.prog 51 (.agg [.int .i64 0, .int .i64 0, .int .i64 0, .int .i64 0, .int .i64 0, .int .i64 0, .int .i64 0, .int .i64 0, .int .i64 0, .int .i64 0, .int .i64 0, .int .i64 0, .int .i64 0, .int .i64 0, .int .i64 0, .int .i64 0, .int .i64 0, .int .i64 0, .int .i64 0, .int .i64 0, .int .i64 0, .int .i64 0, .int .i64 0, .int .i64 0, .int .i64 0, .int .i64 0, .int .i64 0, .int .i64 0, .int .i64 0, .int .i64 0, .int .i64 0, .int .i64 0, .int .i64 0, .int .i64 0, .int .i64 0, .int .i64 0, .int .i64 0, .int .i64 0, .int .i64 0, .int .i64 0, .int .i64 0, .int .i64 0, .int .i64 0, .int .i64 0, .int .i64 0, .int .i64 0, .int .i64 0, .int .i64 0, .int .i64 0, .int .i64 0, .int .i64 0, .int .i64 0, .int .i64 0, .int .i64 0, .int .i64 0, .int .i64 0, .int .i64 0, .int .i64 0, .int .i64 0, .int .i64 0, .int .i64 0, .int .i64 0, .int .i64 0, .int .i64 0].toArray) 64 := by unfold zeroIs; kernel_rfl
theorem sz52 : (Try.prog.info? 52).map (·.size) = some 68 := by kernel_rfl
theorem zr52 : zeroIs Try.prog 52 (.agg [.int .i64 0, .int .i64 0, .slice none 0 0, .int .i64 0, .int .i64 0, .int .i64 0, .int .i64 0, .int .i64 0, .int .i64 0, .int .i64 0, .int .i64 0, .int .i64 0, .int .i64 0, .int .i64 0, .int .i64 0, .int .i64 0, .int .i64 0, .int .i64 0, .int .i64 0, .int .i64 0, .int .i64 0, .int .i64 0, .int .i64 0, .int .i64 0, .int .i64 0, .int .i64 0, .int .i64 0, .int .i64 0, .int .i64 0, .int .i64 0, .int .i64 0, .int .i64 0, .int .i64 0, .int .i64 0, .int .i64 0, .int .i64 0, .int .i64 0, .int .i64 0, .int .i64 0, .int .i64 0, .int .i64 0, .int .i64 0, .int .i64 0, .int .i64 0, .int .i64 0, .int .i64 0, .int .i64 0, .int .i64 0, .int .i64 0, .int .i64 0, .int .i64 0, .int .i64 0, .int .i64 0, .int .i64 0, .int .i64 0, .int .i64 0, .int .i64 0, .int .i64 0, .int .i64 0, .int .i64 0, .int .i64 0, .int .i64 0, .int .i64 0, .int .i64 0, .int .i64 0, .int .i64 0, .int .i64 0, .int .i64 0].toArray) 68 := by unfold zeroIs; kernel_rfl
theorem pl52 {fs : Array Field} (h : Try.prog.underlying 52 = some (.struct fs)) : placesOf Try.prog fs [(0, 1), (1, 1), (2, 1), (3, 64), (67, 1)] := by
  have h1 := Option.some.inj (Try.underlying52.symm.trans h)
  injection h1 with h1
  subst h1
  unfold placesOf
  intro w
  kernel_rfl
theorem sz53 : (Try.prog.info? 53).map (·.size) = some 68 := by kernel_rfl
theorem zr53 : zeroIs Try.prog 53 (.agg [.int .i64 0, .int .i64 0, .slice none 0 0, .int .i64 0, .int .i64 0, .int .i64 0, .int .i64 0, .int .i64 0, .int .i64 0, .int .i64 0, .int .i64 0, .int .i64 0, .int .i64 0, .int .i64 0, .int .i64 0, .int .i64 0, .int .i64 0, .int .i64 0, .int .i64 0, .int .i64 0, .int .i64 0, .int .i64 0, .int .i64 0, .int .i64 0, .int .i64 0, .int .i64 0, .int .i64 0, .int .i64 0, .int .i64 0, .int .i64 0, .int .i64 0, .int .i64 0, .int .i64 0, .int .i64 0, .int .i64 0, .int .i64 0, .int .i64 0, .int .i64 0, .int .i64 0, .int .i64 0, .int .i64 0, .int .i64 0, .int .i64 0, .int .i64 0, .int .i64 0, .int .i64 0, .int .i64 0, .int .i64 0, .int .i64 0, .int .i64 0, .int .i64 0, .int .i64 0, .int .i64 0, .int .i64 0, .int .i64 0, .int .i64 0, .int .i64 0, .int .i64 0, .int .i64 0, .int .i64 0, .int .i64 0, .int .i64 0, .int .i64 0, .int .i64 0, .int .i64 0, .int .i64 0, .int .i64 0, .int .i64 0].toArray) 68 := by unfold zeroIs; kernel_rfl
theorem pl53 {fs : Array Field} (h : Try.prog.underlying 53 = some (.struct fs)) : placesOf Try.prog fs [(0, 1), (1, 1), (2, 1), (3, 64), (67, 1)] := by
  have h1 := Option.some.inj (Try.underlying53.symm.trans h)
  injection h1 with h1
  subst h1
  unfold placesOf
  intro w
  kernel_rfl
theorem sz55 : (Try.prog.info? 55).map (·.size) = some 1 := by kernel_rfl
theorem zr55 : zeroIs Try.prog 55 (.nilFunc) 1 := by unfold zeroIs; kernel_rfl
theorem sz56 : (Try.prog.info? 56).map (·.size) = some 1 := by kernel_rfl
theorem zr56 : zeroIs Try.prog 56 (.nilFunc) 1 := by unfold zeroIs; kernel_rfl
theorem sz57 : (Try.prog.info? 57).map (·.size) = some 1 := by kernel_rfl
theorem zr57 : zeroIs Try.prog 57 (.nilFunc) 1 := by unfold zeroIs; kernel_rfl
theorem sz58 : (Try.prog.info? 58).map (·.size) = some 1 := by kernel_rfl
theorem zr58 : zeroIs Try.prog 58 (.nilFunc) 1 := by unfold zeroIs; kernel_rfl
theorem sz59 : (Try.prog.info? 59).map (·.size) = some 1 := by kernel_rfl
theorem zr59 : zeroIs Try.prog 59 (.nilFunc) 1 := by unfold zeroIs; kernel_rfl
theorem sz60 : (Try.prog.info? 60).map (·.size) = some 1 := by kernel_rfl
theorem zr60 : zeroIs Try.prog 60 (.nilFunc) 1 := by unfold zeroIs; kernel_rfl
theorem sz61 : (Try.prog.info? 61).map (·.size) = some 1 := by kernel_rfl
theorem zr61 : zeroIs Try.prog 61 (.slice none 0 0) 1 := by unfold zeroIs; kernel_rfl
theorem el61 : ElemIs Try.prog 61 47 (.agg [.int .i64 0, .int .i64 0, .int .i64 0, .slice none 0 0].toArray) 4 48 := ⟨Try.underlying61, by kernel_rfl, rfl, by decide⟩
theorem sz62 : (Try.prog.info? 62).map (·.size) = some 3 := by kernel_rfl
theorem zr62 : zeroIs Try.prog 62 (.agg [.int .i64 0, .int .i64 0, .int .i64 0].toArray) 3 := by unfold zeroIs; kernel_rfl
theorem pl62 {fs : Array Field} (h : Try.prog.underlying 62 = some (.struct fs)) : placesOf Try.prog fs [(0, 1), (1, 1), (2, 1)] := by
  have h1 := Option.some.inj (Try.underlying62.symm.trans h)
  injection h1 with h1
  subst h1
  unfold placesOf
  intro w
  kernel_rfl
theorem sz63 : (Try.prog.info? 63).map (·.size) = some 3 := by kernel_rfl
theorem zr63 : zeroIs Try.prog 63 (.agg [.int .i64 0, .int .i64 0, .int .i64 0].toArray) 3 := by unfold zeroIs; kernel_rfl
theorem pl63 {fs : Array Field} (h : Try.prog.underlying 63 = some (.struct fs)) : placesOf Try.prog fs [(0, 1), (1, 1), (2, 1)] := by
  have h1 := Option.some.inj (Try.underlying63.symm.trans h)
  injection h1 with h1
  subst h1
  unfold placesOf
  intro w
  kernel_rfl
theorem sz64 : (Try.prog.info? 64).map (·.size) = some 1 := by kernel_rfl
theorem zr64 : zeroIs Try.prog 64 (.nilFunc) 1 := by unfold zeroIs; kernel_rfl
theorem sz65 : (Try.prog.info? 65).map (·.size) = some 1 := by kernel_rfl
theorem zr65 : zeroIs Try.prog 65 (.nilFunc) 1 := by unfold zeroIs; kernel_rfl
theorem sz66 : (Try.prog.info? 66).map (·.size) = some 1 := by kernel_rfl
theorem zr66 : zeroIs Try.prog 66 (.nilFunc) 1 := by unfold zeroIs; kernel_rfl
theorem sz67 : (Try.prog.info? 67).map (·.size) = some 1 := by kernel_rfl
theorem zr67 : zeroIs Try.prog 67 (.pointer none) 1 := by unfold zeroIs; kernel_rfl
theorem sz68 : (Try.prog.info? 68).map (·.size) = some 1 := by kernel_rfl
theorem zr68 : zeroIs Try.prog 68 (.slice none 0 0) 1 := by unfold zeroIs; kernel_rfl
theorem el68 : ElemIs Try.prog 68 77 (.agg [.int .u8 0, .int .u8 0, .int .i64 0, .int .i64 0, .int .i64 0, .int .i64 0, .slice none 0 0].toArray) 7 64 := ⟨Try.underlying68, by kernel_rfl, rfl, by decide⟩
theorem sz69 : (Try.prog.info? 69).map (·.size) = some 1 := by kernel_rfl
theorem zr69 : zeroIs Try.prog 69 (.int .u8 0) 1 := by unfold zeroIs; kernel_rfl
theorem sz70 : (Try.prog.info? 70).map (·.size) = some 4 := by kernel_rfl
theorem zr70 : zeroIs Try.prog 70 (.agg [.int .u8 0, .int .i64 0, .int .i64 0, .int .i64 0].toArray) 4 := by unfold zeroIs; kernel_rfl
theorem pl70 {fs : Array Field} (h : Try.prog.underlying 70 = some (.struct fs)) : placesOf Try.prog fs [(0, 1), (1, 1), (2, 1), (3, 1)] := by
  have h1 := Option.some.inj (Try.underlying70.symm.trans h)
  injection h1 with h1
  subst h1
  unfold placesOf
  intro w
  kernel_rfl
theorem sz71 : (Try.prog.info? 71).map (·.size) = some 4 := by kernel_rfl
theorem zr71 : zeroIs Try.prog 71 (.agg [.int .u8 0, .int .i64 0, .int .i64 0, .int .i64 0].toArray) 4 := by unfold zeroIs; kernel_rfl
theorem pl71 {fs : Array Field} (h : Try.prog.underlying 71 = some (.struct fs)) : placesOf Try.prog fs [(0, 1), (1, 1), (2, 1), (3, 1)] := by
  have h1 := Option.some.inj (Try.underlying71.symm.trans h)
  injection h1 with h1
  subst h1
  unfold placesOf
  intro w
  kernel_rfl
theorem sz72 : (Try.prog.info? 72).map (·.size) = some 5 := by kernel_rfl
theorem zr72 : zeroIs Try.prog 72 (.agg [.slice none 0 0, .int .u8 0, .int .i64 0, .int .i64 0, .int .i64 0].toArray) 5 := by unfold zeroIs; kernel_rfl
theorem pl72 {fs : Array Field} (h : Try.prog.underlying 72 = some (.struct fs)) : placesOf Try.prog fs [(0, 1), (1, 4)] := by
  have h1 := Option.some.inj (Try.underlying72.symm.trans h)
  injection h1 with h1
  subst h1
  unfold placesOf
  intro w
  kernel_rfl
theorem sz73 : (Try.prog.info? 73).map (·.size) = some 5 := by kernel_rfl
theorem zr73 : zeroIs Try.prog 73 (.agg [.slice none 0 0, .int .u8 0, .int .i64 0, .int .i64 0, .int .i64 0].toArray) 5 := by unfold zeroIs; kernel_rfl
theorem pl73 {fs : Array Field} (h : Try.prog.underlying 73 = some (.struct fs)) : placesOf Try.prog fs [(0, 1), (1, 4)] := by
  have h1 := Option.some.inj (Try.underlying73.symm.trans h)
  injection h1 with h1
  subst h1
  unfold placesOf
  intro w
  kernel_rfl
theorem sz74 : (Try.prog.info? 74).map (·.size) = some 1 := by kernel_rfl
theorem zr74 : zeroIs Try.prog 74 (.int .u8 0) 1 := by unfold zeroIs; kernel_rfl
theorem sz75 : (Try.prog.info? 75).map (·.size) = some 1 := by kernel_rfl
theorem zr75 : zeroIs Try.prog 75 (.int .u8 0) 1 := by unfold zeroIs; kernel_rfl
theorem sz76 : (Try.prog.info? 76).map (·.size) = some 7 := by kernel_rfl
theorem zr76 : zeroIs Try.prog 76 (.agg [.int .u8 0, .int .u8 0, .int .i64 0, .int .i64 0, .int .i64 0, .int .i64 0, .slice none 0 0].toArray) 7 := by unfold zeroIs; kernel_rfl
theorem pl76 {fs : Array Field} (h : Try.prog.underlying 76 = some (.struct fs)) : placesOf Try.prog fs [(0, 1), (1, 1), (2, 1), (3, 1), (4, 1), (5, 1), (6, 1)] := by
  have h1 := Option.some.inj (Try.underlying76.symm.trans h)
  injection h1 with h1
  subst h1
  unfold placesOf
  intro w
  kernel_rfl
theorem sz77 : (Try.prog.info? 77).map (·.size) = some 7 := by kernel_rfl
theorem zr77 : zeroIs Try.prog 77 (.agg [.int .u8 0, .int .u8 0, .int .i64 0, .int .i64 0, .int .i64 0, .int .i64 0, .slice none 0 0].toArray) 7 := by unfold zeroIs; kernel_rfl
theorem pl77 {fs : Array Field} (h : Try.prog.underlying 77 = some (.struct fs)) : placesOf Try.prog fs [(0, 1), (1, 1), (2, 1), (3, 1), (4, 1), (5, 1), (6, 1)] := by
  have h1 := Option.some.inj (Try.underlying77.symm.trans h)
  injection h1 with h1
  subst h1
  unfold placesOf
  intro w
  kernel_rfl
theorem sz78 : (Try.prog.info? 78).map (·.size) = some 1 := by kernel_rfl
theorem zr78 : zeroIs Try.prog 78 (.nilFunc) 1 := by unfold zeroIs; kernel_rfl
theorem sz79 : (Try.prog.info? 79).map (·.size) = some 3 := by kernel_rfl
theorem zr79 : zeroIs Try.prog 79 (.agg [.int .i64 0, .int .i64 0, .slice none 0 0].toArray) 3 := by unfold zeroIs; kernel_rfl
theorem pl79 {fs : Array Field} (h : Try.prog.underlying 79 = some (.struct fs)) : placesOf Try.prog fs [(0, 1), (1, 1), (2, 1)] := by
  have h1 := Option.some.inj (Try.underlying79.symm.trans h)
  injection h1 with h1
  subst h1
  unfold placesOf
  intro w
  kernel_rfl
theorem sz80 : (Try.prog.info? 80).map (·.size) = some 3 := by kernel_rfl
theorem zr80 : zeroIs Try.prog 80 (.agg [.int .i64 0, .int .i64 0, .slice none 0 0].toArray) 3 := by unfold zeroIs; kernel_rfl
theorem pl80 {fs : Array Field} (h : Try.prog.underlying 80 = some (.struct fs)) : placesOf Try.prog fs [(0, 1), (1, 1), (2, 1)] := by
  have h1 := Option.some.inj (Try.underlying80.symm.trans h)
  injection h1 with h1
  subst h1
  unfold placesOf
  intro w
  kernel_rfl
theorem sz81 : (Try.prog.info? 81).map (·.size) = some 1 := by kernel_rfl
theorem zr81 : zeroIs Try.prog 81 (.nilFunc) 1 := by unfold zeroIs; kernel_rfl
theorem sz82 : (Try.prog.info? 82).map (·.size) = some 1 := by kernel_rfl
theorem zr82 : zeroIs Try.prog 82 (.nilFunc) 1 := by unfold zeroIs; kernel_rfl
theorem sz83 : (Try.prog.info? 83).map (·.size) = some 1 := by kernel_rfl
theorem zr83 : zeroIs Try.prog 83 (.nilFunc) 1 := by unfold zeroIs; kernel_rfl
theorem sz84 : (Try.prog.info? 84).map (·.size) = some 1 := by kernel_rfl
theorem zr84 : zeroIs Try.prog 84 (.nilFunc) 1 := by unfold zeroIs; kernel_rfl
theorem sz85 : (Try.prog.info? 85).map (·.size) = some 1 := by kernel_rfl
theorem zr85 : zeroIs Try.prog 85 (.nilFunc) 1 := by unfold zeroIs; kernel_rfl
theorem sz87 : (Try.prog.info? 87).map (·.size) = some 1 := by kernel_rfl
theorem zr87 : zeroIs Try.prog 87 (.nilFunc) 1 := by unfold zeroIs; kernel_rfl
theorem sz89 : (Try.prog.info? 89).map (·.size) = some 1 := by kernel_rfl
theorem zr89 : zeroIs Try.prog 89 (.nilFunc) 1 := by unfold zeroIs; kernel_rfl
theorem sz90 : (Try.prog.info? 90).map (·.size) = some 1 := by kernel_rfl
theorem zr90 : zeroIs Try.prog 90 (.nilFunc) 1 := by unfold zeroIs; kernel_rfl
theorem sz92 : (Try.prog.info? 92).map (·.size) = some 1 := by kernel_rfl
theorem zr92 : zeroIs Try.prog 92 (.nilFunc) 1 := by unfold zeroIs; kernel_rfl
theorem sz94 : (Try.prog.info? 94).map (·.size) = some 1 := by kernel_rfl
theorem zr94 : zeroIs Try.prog 94 (.nilFunc) 1 := by unfold zeroIs; kernel_rfl
theorem sz95 : (Try.prog.info? 95).map (·.size) = some 1 := by kernel_rfl
theorem zr95 : zeroIs Try.prog 95 (.nilFunc) 1 := by unfold zeroIs; kernel_rfl
theorem sz96 : (Try.prog.info? 96).map (·.size) = some 1 := by kernel_rfl
theorem zr96 : zeroIs Try.prog 96 (.nilFunc) 1 := by unfold zeroIs; kernel_rfl
theorem sz97 : (Try.prog.info? 97).map (·.size) = some 1 := by kernel_rfl
theorem zr97 : zeroIs Try.prog 97 (.nilFunc) 1 := by unfold zeroIs; kernel_rfl
theorem sz98 : (Try.prog.info? 98).map (·.size) = some 1 := by kernel_rfl
theorem zr98 : zeroIs Try.prog 98 (.nilFunc) 1 := by unfold zeroIs; kernel_rfl
theorem sz99 : (Try.prog.info? 99).map (·.size) = some 1 := by kernel_rfl
theorem zr99 : zeroIs Try.prog 99 (.int .u64 0) 1 := by unfold zeroIs; kernel_rfl
theorem sz100 : (Try.prog.info? 100).map (·.size) = some 1 := by kernel_rfl
theorem zr100 : zeroIs Try.prog 100 (.nilFunc) 1 := by unfold zeroIs; kernel_rfl
theorem sz101 : (Try.prog.info? 101).map (·.size) = some 1 := by kernel_rfl
theorem zr101 : zeroIs Try.prog 101 (.nilFunc) 1 := by unfold zeroIs; kernel_rfl
theorem sz102 : (Try.prog.info? 102).map (·.size) = some 1 := by kernel_rfl
theorem zr102 : zeroIs Try.prog 102 (.nilFunc) 1 := by unfold zeroIs; kernel_rfl
theorem sz103 : (Try.prog.info? 103).map (·.size) = some 1 := by kernel_rfl
theorem zr103 : zeroIs Try.prog 103 (.pointer none) 1 := by unfold zeroIs; kernel_rfl
theorem sz105 : (Try.prog.info? 105).map (·.size) = some 1 := by kernel_rfl
theorem zr105 : zeroIs Try.prog 105 (.nilFunc) 1 := by unfold zeroIs; kernel_rfl
theorem sz107 : (Try.prog.info? 107).map (·.size) = some 1 := by kernel_rfl
theorem zr107 : zeroIs Try.prog 107 (.nilFunc) 1 := by unfold zeroIs; kernel_rfl
theorem sz108 : (Try.prog.info? 108).map (·.size) = some 1 := by kernel_rfl
theorem zr108 : zeroIs Try.prog 108 (.nilFunc) 1 := by unfold zeroIs; kernel_rfl
theorem sz109 : (Try.prog.info? 109).map (·.size) = some 1 := by kernel_rfl
theorem zr109 : zeroIs Try.prog 109 (.pointer none) 1 := by unfold zeroIs; kernel_rfl
theorem sz110 : (Try.prog.info? 110).map (·.size) = some 1 := by kernel_rfl
theorem zr110 : zeroIs Try.prog 110 (.agg [.slice none 0 0].toArray) 1 := by unfold zeroIs; kernel_rfl
theorem pl110 {fs : Array Field} (h : Try.prog.underlying 110 = some (.struct fs)) : placesOf Try.prog fs [(0, 1)] := by
  have h1 := Option.some.inj (Try.underlying110.symm.trans h)
  injection h1 with h1
  subst h1
  unfold placesOf
  intro w
  kernel_rfl
theorem sz111 : (Try.prog.info? 111).map (·.size) = some 1 := by kernel_rfl
theorem zr111 : zeroIs Try.prog 111 (.agg [.slice none 0 0].toArray) 1 := by unfold zeroIs; kernel_rfl
theorem pl111 {fs : Array Field} (h : Try.prog.underlying 111 = some (.struct fs)) : placesOf Try.prog fs [(0, 1)] := by
  have h1 := Option.some.inj (Try.underlying111.symm.trans h)
  injection h1 with h1
  subst h1
  unfold placesOf
  intro w
  kernel_rfl
theorem sz112 : (Try.prog.info? 112).map (·.size) = some 1 := by kernel_rfl
theorem zr112 : zeroIs Try.prog 112 (.nilFunc) 1 := by unfold zeroIs; kernel_rfl
theorem sz113 : (Try.prog.info? 113).map (·.size) = some 2 := by kernel_rfl
theorem zr113 : zeroIs Try.prog 113 (.agg [.int .i64 0, .int .i64 0].toArray) 2 := by unfold zeroIs; kernel_rfl
theorem pl113 {fs : Array Field} (h : Try.prog.underlying 113 = some (.struct fs)) : placesOf Try.prog fs [(0, 1), (1, 1)] := by
  have h1 := Option.some.inj (Try.underlying113.symm.trans h)
  injection h1 with h1
  subst h1
  unfold placesOf
  intro w
  kernel_rfl
theorem sz114 : (Try.prog.info? 114).map (·.size) = some 2 := by kernel_rfl
theorem zr114 : zeroIs Try.prog 114 (.agg [.int .i64 0, .int .i64 0].toArray) 2 := by unfold zeroIs; kernel_rfl
theorem pl114 {fs : Array Field} (h : Try.prog.underlying 114 = some (.struct fs)) : placesOf Try.prog fs [(0, 1), (1, 1)] := by
  have h1 := Option.some.inj (Try.underlying114.symm.trans h)
  injection h1 with h1
  subst h1
  unfold placesOf
  intro w
  kernel_rfl
theorem sz115 : (Try.prog.info? 115).map (·.size) = some 1 := by kernel_rfl
theorem zr115 : zeroIs Try.prog 115 (.nilFunc) 1 := by unfold zeroIs; kernel_rfl
theorem sz116 : (Try.prog.info? 116).map (·.size) = some 1 := by kernel_rfl
theorem zr116 : zeroIs Try.prog 116 (.int .u64 0) 1 := by unfold zeroIs; kernel_rfl
theorem sz117 : (Try.prog.info? 117).map (·.size) = some 1 := by kernel_rfl
theorem zr117 : zeroIs Try.prog 117 (.pointer none) 1 := by unfold zeroIs; kernel_rfl
theorem sz118 : (Try.prog.info? 118).map (·.size) = some 1 := by kernel_rfl
theorem zr118 : zeroIs Try.prog 118 (.nilFunc) 1 := by unfold zeroIs; kernel_rfl
theorem sz119 : (Try.prog.info? 119).map (·.size) = some 1 := by kernel_rfl
theorem zr119 : zeroIs Try.prog 119 (.nilFunc) 1 := by unfold zeroIs; kernel_rfl
theorem sz120 : (Try.prog.info? 120).map (·.size) = some 1 := by kernel_rfl
theorem zr120 : zeroIs Try.prog 120 (.nilFunc) 1 := by unfold zeroIs; kernel_rfl
theorem sz121 : (Try.prog.info? 121).map (·.size) = some 1 := by kernel_rfl
theorem zr121 : zeroIs Try.prog 121 (.pointer none) 1 := by unfold zeroIs; kernel_rfl
theorem sz122 : (Try.prog.info? 122).map (·.size) = some 2 := by kernel_rfl
theorem zr122 : zeroIs Try.prog 122 (.agg [.slice none 0 0, .int .i64 0].toArray) 2 := by unfold zeroIs; kernel_rfl
theorem pl122 {fs : Array Field} (h : Try.prog.underlying 122 = some (.struct fs)) : placesOf Try.prog fs [(0, 1), (1, 1)] := by
  have h1 := Option.some.inj (Try.underlying122.symm.trans h)
  injection h1 with h1
  subst h1
  unfold placesOf
  intro w
  kernel_rfl
theorem sz123 : (Try.prog.info? 123).map (·.size) = some 2 := by kernel_rfl
theorem zr123 : zeroIs Try.prog 123 (.agg [.slice none 0 0, .int .i64 0].toArray) 2 := by unfold zeroIs; kernel_rfl
theorem pl123 {fs : Array Field} (h : Try.prog.underlying 123 = some (.struct fs)) : placesOf Try.prog fs [(0, 1), (1, 1)] := by
  have h1 := Option.some.inj (Try.underlying123.symm.trans h)
  injection h1 with h1
  subst h1
  unfold placesOf
  intro w
  kernel_rfl
theorem sz124 : (Try.prog.info? 124).map (·.size) = some 1 := by kernel_rfl
theorem zr124 : zeroIs Try.prog 124 (.nilFunc) 1 := by unfold zeroIs; kernel_rfl
theorem sz125 : (Try.prog.info? 125).map (·.size) = some 1 := by kernel_rfl
theorem zr125 : zeroIs Try.prog 125 (.nilFunc) 1 := by unfold zeroIs; kernel_rfl
theorem sz126 : (Try.prog.info? 126).map (·.size) = some 1 := by kernel_rfl
theorem zr126 : zeroIs Try.prog 126 (.pointer none) 1 := by unfold zeroIs; kernel_rfl
theorem sz127 : (Try.prog.info? 127).map (·.size) = some 1 := by kernel_rfl
theorem zr127 : zeroIs Try.prog 127 (.nilFunc) 1 := by unfold zeroIs; kernel_rfl
theorem sz128 : (Try.prog.info? 128).map (·.size) = some 2 := by kernel_rfl
theorem zr128 : zeroIs Try.prog 128 (.agg [.int .i64 0, .slice none 0 0].toArray) 2 := by unfold zeroIs; kernel_rfl
theorem pl128 {fs : Array Field} (h : Try.prog.underlying 128 = some (.struct fs)) : placesOf Try.prog fs [(0, 1), (1, 1)] := by
  have h1 := Option.some.inj (Try.underlying128.symm.trans h)
  injection h1 with h1
  subst h1
  unfold placesOf
  intro w
  kernel_rfl
theorem sz129 : (Try.prog.info? 129).map (·.size) = some 2 := by kernel_rfl
theorem zr129 : zeroIs Try.prog 129 (.agg [.int .i64 0, .slice none 0 0].toArray) 2 := by unfold zeroIs; kernel_rfl
theorem pl129 {fs : Array Field} (h : Try.prog.underlying 129 = some (.struct fs)) : placesOf Try.prog fs [(0, 1), (1, 1)] := by
  have h1 := Option.some.inj (Try.underlying129.symm.trans h)
  injection h1 with h1
  subst h1
  unfold placesOf
  intro w
  kernel_rfl
theorem sz130 : (Try.prog.info? 130).map (·.size) = some 1 := by kernel_rfl
theorem zr130 : zeroIs Try.prog 130 (.nilFunc) 1 := by unfold zeroIs; kernel_rfl
theorem sz131 : (Try.prog.info? 131).map (·.size) = some 1 := by kernel_rfl
theorem zr131 : zeroIs Try.prog 131 (.nilFunc) 1 := by unfold zeroIs; kernel_rfl
theorem sz132 : (Try.prog.info? 132).map (·.size) = some 1 := by kernel_rfl
theorem zr132 : zeroIs Try.prog 132 (.pointer none) 1 := by unfold zeroIs; kernel_rfl
theorem sz133 : (Try.prog.info? 133).map (·.size) = some 1 := by kernel_rfl
theorem zr133 : zeroIs Try.prog 133 (.agg [.slice none 0 0].toArray) 1 := by unfold zeroIs; kernel_rfl
theorem pl133 {fs : Array Field} (h : Try.prog.underlying 133 = some (.struct fs)) : placesOf Try.prog fs [(0, 1)] := by
  have h1 := Option.some.inj (Try.underlying133.symm.trans h)
  injection h1 with h1
  subst h1
  unfold placesOf
  intro w
  kernel_rfl
theorem sz134 : (Try.prog.info? 134).map (·.size) = some 1 := by kernel_rfl
theorem zr134 : zeroIs Try.prog 134 (.agg [.slice none 0 0].toArray) 1 := by unfold zeroIs; kernel_rfl
theorem pl134 {fs : Array Field} (h : Try.prog.underlying 134 = some (.struct fs)) : placesOf Try.prog fs [(0, 1)] := by
  have h1 := Option.some.inj (Try.underlying134.symm.trans h)
  injection h1 with h1
  subst h1
  unfold placesOf
  intro w
  kernel_rfl
theorem sz135 : (Try.prog.info? 135).map (·.size) = some 1 := by kernel_rfl
theorem zr135 : zeroIs Try.prog 135 (.nilFunc) 1 := by unfold zeroIs; kernel_rfl
theorem sz136 : (Try.prog.info? 136).map (·.size) = some 1 := by kernel_rfl
theorem zr136 : zeroIs Try.prog 136 (.nilFunc) 1 := by unfold zeroIs; kernel_rfl
theorem sz137 : (Try.prog.info? 137).map (·.size) = some 1 := by kernel_rfl
theorem zr137 : zeroIs Try.prog 137 (.nilFunc) 1 := by unfold zeroIs; kernel_rfl
theorem sz138 : (Try.prog.info? 138).map (·.size) = some 1 := by kernel_rfl
theorem zr138 : zeroIs Try.prog 138 (.nilFunc) 1 := by unfold zeroIs; kernel_rfl
theorem sz139 : (Try.prog.info? 139).map (·.size) = some 1 := by kernel_rfl
theorem zr139 : zeroIs Try.prog 139 (.nilFunc) 1 := by unfold zeroIs; kernel_rfl
theorem sz140 : (Try.prog.info? 140).map (·.size) = some 1 := by kernel_rfl
theorem zr140 : zeroIs Try.prog 140 (.nilFunc) 1 := by unfold zeroIs; kernel_rfl
theorem sz141 : (Try.prog.info? 141).map (·.size) = some 1 := by kernel_rfl
theorem zr141 : zeroIs Try.prog 141 (.nilFunc) 1 := by unfold zeroIs; kernel_rfl
theorem sz142 : (Try.prog.info? 142).map (·.size) = some 2 := by kernel_rfl
theorem zr142 : zeroIs Try.prog 142 (.agg [.slice none 0 0, .slice none 0 0].toArray) 2 := by unfold zeroIs; kernel_rfl
theorem pl142 {fs : Array Field} (h : Try.prog.underlying 142 = some (.struct fs)) : placesOf Try.prog fs [(0, 1), (1, 1)] := by
  have h1 := Option.some.inj (Try.underlying142.symm.trans h)
  injection h1 with h1
  subst h1
  unfold placesOf
  intro w
  kernel_rfl
theorem sz143 : (Try.prog.info? 143).map (·.size) = some 2 := by kernel_rfl
theorem zr143 : zeroIs Try.prog 143 (.agg [.slice none 0 0, .slice none 0 0].toArray) 2 := by unfold zeroIs; kernel_rfl
theorem pl143 {fs : Array Field} (h : Try.prog.underlying 143 = some (.struct fs)) : placesOf Try.prog fs [(0, 1), (1, 1)] := by
  have h1 := Option.some.inj (Try.underlying143.symm.trans h)
  injection h1 with h1
  subst h1
  unfold placesOf
  intro w
  kernel_rfl
theorem sz144 : (Try.prog.info? 144).map (·.size) = some 1 := by kernel_rfl
theorem zr144 : zeroIs Try.prog 144 (.nilFunc) 1 := by unfold zeroIs; kernel_rfl
theorem sz145 : (Try.prog.info? 145).map (·.size) = some 1 := by kernel_rfl
theorem zr145 : zeroIs Try.prog 145 (.pointer none) 1 := by unfold zeroIs; kernel_rfl
theorem sz146 : (Try.prog.info? 146).map (·.size) = some 7 := by kernel_rfl
theorem zr146 : zeroIs Try.prog 146 (.agg [.pointer none, .int .i64 0, .slice none 0 0, .int .u8 0, .int .i64 0, .int .i64 0, .int .i64 0].toArray) 7 := by unfold zeroIs; kernel_rfl
theorem pl146 {fs : Array Field} (h : Try.prog.underlying 146 = some (.struct fs)) : placesOf Try.prog fs [(0, 1), (1, 1), (2, 5)] := by
  have h1 := Option.some.inj (Try.underlying146.symm.trans h)
  injection h1 with h1
  subst h1
  unfold placesOf
  intro w
  kernel_rfl
theorem sz147 : (Try.prog.info? 147).map (·.size) = some 7 := by kernel_rfl
theorem zr147 : zeroIs Try.prog 147 (.agg [.pointer none, .int .i64 0, .slice none 0 0, .int .u8 0, .int .i64 0, .int .i64 0, .int .i64 0].toArray) 7 := by unfold zeroIs; kernel_rfl
theorem pl147 {fs : Array Field} (h : Try.prog.underlying 147 = some (.struct fs)) : placesOf Try.prog fs [(0, 1), (1, 1), (2, 5)] := by
  have h1 := Option.some.inj (Try.underlying147.symm.trans h)
  injection h1 with h1
  subst h1
  unfold placesOf
  intro w
  kernel_rfl
theorem sz148 : (Try.prog.info? 148).map (·.size) = some 1 := by kernel_rfl
theorem zr148 : zeroIs Try.prog 148 (.nilFunc) 1 := by unfold zeroIs; kernel_rfl
theorem sz150 : (Try.prog.info? 150).map (·.size) = some 1 := by kernel_rfl
theorem zr150 : zeroIs Try.prog 150 (.nilFunc) 1 := by unfold zeroIs; kernel_rfl
theorem sz151 : (Try.prog.info? 151).map (·.size) = some 1 := by kernel_rfl
theorem zr151 : zeroIs Try.prog 151 (.nilFunc) 1 := by unfold zeroIs; kernel_rfl
theorem sz152 : (Try.prog.info? 152).map (·.size) = some 1 := by kernel_rfl
theorem zr152 : zeroIs Try.prog 152 (.pointer none) 1 := by unfold zeroIs; kernel_rfl
theorem sz153 : (Try.prog.info? 153).map (·.size) = some 71 := by kernel_rfl
theorem zr153 : zeroIs Try.prog 153 (.agg [.int .i64 0, .int .i64 0, .slice none 0 0, .int .i64 0, .int .i64 0, .int .i64 0, .int .i64 0, .int .i64 0, .int .i64 0, .int .i64 0, .int .i64 0, .int .i64 0, .int .i64 0, .int .i64 0, .int .i64 0, .int .i64 0, .int .i64 0, .int .i64 0, .int .i64 0, .int .i64 0, .int .i64 0, .int .i64 0, .int .i64 0, .int .i64 0, .int .i64 0, .int .i64 0, .int .i64 0, .int .i64 0, .int .i64 0, .int .i64 0, .int .i64 0, .int .i64 0, .int .i64 0, .int .i64 0, .int .i64 0, .int .i64 0, .int .i64 0, .int .i64 0, .int .i64 0, .int .i64 0, .int .i64 0, .int .i64 0, .int .i64 0, .int .i64 0, .int .i64 0, .int .i64 0, .int .i64 0, .int .i64 0, .int .i64 0, .int .i64 0, .int .i64 0, .int .i64 0, .int .i64 0, .int .i64 0, .int .i64 0, .int .i64 0, .int .i64 0, .int .i64 0, .int .i64 0, .int .i64 0, .int .i64 0, .int .i64 0, .int .i64 0, .int .i64 0, .int .i64 0, .int .i64 0, .int .i64 0, .int .i64 0, .slice none 0 0, .int .i64 0, .slice none 0 0].toArray) 71 := by unfold zeroIs; kernel_rfl
theorem pl153 {fs : Array Field} (h : Try.prog.underlying 153 = some (.struct fs)) : placesOf Try.prog fs [(0, 68), (68, 1), (69, 1), (70, 1)] := by
  have h1 := Option.some.inj (Try.underlying153.symm.trans h)
  injection h1 with h1
  subst h1
  unfold placesOf
  intro w
  kernel_rfl
theorem sz154 : (Try.prog.info? 154).map (·.size) = some 71 := by kernel_rfl
theorem zr154 : zeroIs Try.prog 154 (.agg [.int .i64 0, .int .i64 0, .slice none 0 0, .int .i64 0, .int .i64 0, .int .i64 0, .int .i64 0, .int .i64 0, .int .i64 0, .int .i64 0, .int .i64 0, .int .i64 0, .int .i64 0, .int .i64 0, .int .i64 0, .int .i64 0, .int .i64 0, .int .i64 0, .int .i64 0, .int .i64 0, .int .i64 0, .int .i64 0, .int .i64 0, .int .i64 0, .int .i64 0, .int .i64 0, .int .i64 0, .int .i64 0, .int .i64 0, .int .i64 0, .int .i64 0, .int .i64 0, .int .i64 0, .int .i64 0, .int .i64 0, .int .i64 0, .int .i64 0, .int .i64 0, .int .i64 0, .int .i64 0, .int .i64 0, .int .i64 0, .int .i64 0, .int .i64 0, .int .i64 0, .int .i64 0, .int .i64 0, .int .i64 0, .int .i64 0, .int .i64 0, .int .i64 0, .int .i64 0, .int .i64 0, .int .i64 0, .int .i64 0, .int .i64 0, .int .i64 0, .int .i64 0, .int .i64 0, .int .i64 0, .int .i64 0, .int .i64 0, .int .i64 0, .int .i64 0, .int .i64 0, .int .i64 0, .int .i64 0, .int .i64 0, .slice none 0 0, .int .i64 0, .slice none 0 0].toArray) 71 := by unfold zeroIs; kernel_rfl
theorem pl154 {fs : Array Field} (h : Try.prog.underlying 154 = some (.struct fs)) : placesOf Try.prog fs [(0, 68), (68, 1), (69, 1), (70, 1)] := by
  have h1 := Option.some.inj (Try.underlying154.symm.trans h)
  injection h1 with h1
  subst h1
  unfold placesOf
  intro w
  kernel_rfl
theorem sz155 : (Try.prog.info? 155).map (·.size) = some 1 := by kernel_rfl
theorem zr155 : zeroIs Try.prog 155 (.nilFunc) 1 := by unfold zeroIs; kernel_rfl
theorem sz156 : (Try.prog.info? 156).map (·.size) = some 2 := by kernel_rfl
theorem zr156 : zeroIs Try.prog 156 (.agg [.slice none 0 0, .int .i64 0].toArray) 2 := by unfold zeroIs; kernel_rfl
theorem pl156 {fs : Array Field} (h : Try.prog.underlying 156 = some (.struct fs)) : placesOf Try.prog fs [(0, 1), (1, 1)] := by
  have h1 := Option.some.inj (Try.underlying156.symm.trans h)
  injection h1 with h1
  subst h1
  unfold placesOf
  intro w
  kernel_rfl
theorem sz157 : (Try.prog.info? 157).map (·.size) = some 2 := by kernel_rfl
theorem zr157 : zeroIs Try.prog 157 (.agg [.slice none 0 0, .int .i64 0].toArray) 2 := by unfold zeroIs; kernel_rfl
theorem pl157 {fs : Array Field} (h : Try.prog.underlying 157 = some (.struct fs)) : placesOf Try.prog fs [(0, 1), (1, 1)] := by
  have h1 := Option.some.inj (Try.underlying157.symm.trans h)
  injection h1 with h1
  subst h1
  unfold placesOf
  intro w
  kernel_rfl
theorem sz158 : (Try.prog.info? 158).map (·.size) = some 1 := by kernel_rfl
theorem zr158 : zeroIs Try.prog 158 (.nilFunc) 1 := by unfold zeroIs; kernel_rfl
theorem sz159 : (Try.prog.info? 159).map (·.size) = some 1 := by kernel_rfl
theorem zr159 : zeroIs Try.prog 159 (.nilFunc) 1 := by unfold zeroIs; kernel_rfl
theorem sz160 : (Try.prog.info? 160).map (·.size) = some 1 := by kernel_rfl
theorem zr160 : zeroIs Try.prog 160 (.nilFunc) 1 := by unfold zeroIs; kernel_rfl
theorem sz161 : (Try.prog.info? 161).map (·.size) = some 1 := by kernel_rfl
theorem zr161 : zeroIs Try.prog 161 (.nilFunc) 1 := by unfold zeroIs; kernel_rfl
theorem sz162 : (Try.prog.info? 162).map (·.size) = some 1 := by kernel_rfl
theorem zr162 : zeroIs Try.prog 162 (.nilFunc) 1 := by unfold zeroIs; kernel_rfl
theorem sz163 : (Try.prog.info? 163).map (·.size) = some 1 := by kernel_rfl
theorem zr163 : zeroIs Try.prog 163 (.nilFunc) 1 := by unfold zeroIs; kernel_rfl
theorem sz164 : (Try.prog.info? 164).map (·.size) = some 1 := by kernel_rfl
theorem zr164 : zeroIs Try.prog 164 (.nilFunc) 1 := by unfold zeroIs; kernel_rfl
theorem sz165 : (Try.prog.info? 165).map (·.size) = some 1 := by kernel_rfl
theorem zr165 : zeroIs Try.prog 165 (.nilFunc) 1 := by unfold zeroIs; kernel_rfl
theorem sz166 : (Try.prog.info? 166).map (·.size) = some 1 := by kernel_rfl
theorem zr166 : zeroIs Try.prog 166 (.nilFunc) 1 := by unfold zeroIs; kernel_rfl
theorem sz167 : (Try.prog.info? 167).map (·.size) = some 1 := by kernel_rfl
theorem zr167 : zeroIs Try.prog 167 (.nilFunc) 1 := by unfold zeroIs; kernel_rfl
theorem sz168 : (Try.prog.info? 168).map (·.size) = some 1 := by kernel_rfl
theorem zr168 : zeroIs Try.prog 168 (.nilFunc) 1 := by unfold zeroIs; kernel_rfl
theorem sz169 : (Try.prog.info? 169).map (·.size) = some 1 := by kernel_rfl
theorem zr169 : zeroIs Try.prog 169 (.nilFunc) 1 := by unfold zeroIs; kernel_rfl
theorem sz170 : (Try.prog.info? 170).map (·.size) = some 1 := by kernel_rfl
theorem zr170 : zeroIs Try.prog 170 (.nilFunc) 1 := by unfold zeroIs; kernel_rfl
theorem sz171 : (Try.prog.info? 171).map (·.size) = some 1 := by kernel_rfl
theorem zr171 : zeroIs Try.prog 171 (.nilFunc) 1 := by unfold zeroIs; kernel_rfl
theorem sz172 : (Try.prog.info? 172).map (·.size) = some 1 := by kernel_rfl
theorem zr172 : zeroIs Try.prog 172 (.nilFunc) 1 := by unfold zeroIs; kernel_rfl
theorem sz173 : (Try.prog.info? 173).map (·.size) = some 1 := by kernel_rfl
theorem zr173 : zeroIs Try.prog 173 (.nilFunc) 1 := by unfold zeroIs; kernel_rfl
theorem sz174 : (Try.prog.info? 174).map (·.size) = some 1 := by kernel_rfl
theorem zr174 : zeroIs Try.prog 174 (.nilFunc) 1 := by unfold zeroIs; kernel_rfl
theorem sz175 : (Try.prog.info? 175).map (·.size) = some 1 := by kernel_rfl
theorem zr175 : zeroIs Try.prog 175 (.nilFunc) 1 := by unfold zeroIs; kernel_rfl
theorem sz176 : (Try.prog.info? 176).map (·.size) = some 1 := by kernel_rfl
theorem zr176 : zeroIs Try.prog 176 (.nilFunc) 1 := by unfold zeroIs; kernel_rfl
theorem sz177 : (Try.prog.info? 177).map (·.size) = some 1 := by kernel_rfl
theorem zr177 : zeroIs Try.prog 177 (.nilFunc) 1 := by unfold zeroIs; kernel_rfl
theorem sz179 : (Try.prog.info? 179).map (·.size) = some 1 := by kernel_rfl
theorem zr179 : zeroIs Try.prog 179 (.nilFunc) 1 := by unfold zeroIs; kernel_rfl
theorem sz180 : (Try.prog.info? 180).map (·.size) = some 1 := by kernel_rfl
theorem zr180 : zeroIs Try.prog 180 (.pointer none) 1 := by unfold zeroIs; kernel_rfl
theorem sz181 : (Try.prog.info? 181).map (·.size) = some 1 := by kernel_rfl
theorem zr181 : zeroIs Try.prog 181 (.nilFunc) 1 := by unfold zeroIs; kernel_rfl
theorem sz182 : (Try.prog.info? 182).map (·.size) = some 1 := by kernel_rfl
theorem zr182 : zeroIs Try.prog 182 (.nilFunc) 1 := by unfold zeroIs; kernel_rfl
theorem sz183 : (Try.prog.info? 183).map (·.size) = some 1 := by kernel_rfl
theorem zr183 : zeroIs Try.prog 183 (.nilFunc) 1 := by unfold zeroIs; kernel_rfl
theorem sz184 : (Try.prog.info? 184).map (·.size) = some 1 := by kernel_rfl
theorem zr184 : zeroIs Try.prog 184 (.nilFunc) 1 := by unfold zeroIs; kernel_rfl
theorem sz185 : (Try.prog.info? 185).map (·.size) = some 1 := by kernel_rfl
theorem zr185 : zeroIs Try.prog 185 (.nilFunc) 1 := by unfold zeroIs; kernel_rfl
theorem sz186 : (Try.prog.info? 186).map (·.size) = some 1 := by kernel_rfl
theorem zr186 : zeroIs Try.prog 186 (.slice none 0 0) 1 := by unfold zeroIs; kernel_rfl
theorem el186 : ElemIs Try.prog 186 9 (.string ByteArray.empty) 1 16 := ⟨Try.underlying186, by kernel_rfl, rfl, by decide⟩
theorem sz187 : (Try.prog.info? 187).map (·.size) = some 1 := by kernel_rfl
theorem zr187 : zeroIs Try.prog 187 (.nilFunc) 1 := by unfold zeroIs; kernel_rfl
theorem sz188 : (Try.prog.info? 188).map (·.size) = some 1 := by kernel_rfl
theorem zr188 : zeroIs Try.prog 188 (.nilFunc) 1 := by unfold zeroIs; kernel_rfl
theorem sz189 : (Try.prog.info? 189).map (·.size) = some 1 := by kernel_rfl
theorem zr189 : zeroIs Try.prog 189 (.nilFunc) 1 := by unfold zeroIs; kernel_rfl
theorem sz190 : (Try.prog.info? 190).map (·.size) = some 1 := by kernel_rfl
theorem zr190 : zeroIs Try.prog 190 (.nilFunc) 1 := by unfold zeroIs; kernel_rfl
theorem sz191 : (Try.prog.info? 191).map (·.size) = some 1 := by kernel_rfl
theorem zr191 : zeroIs Try.prog 191 (.nilFunc) 1 := by unfold zeroIs; kernel_rfl
theorem sz192 : (Try.prog.info? 192).map (·.size) = some 1 := by kernel_rfl
theorem zr192 : zeroIs Try.prog 192 (.slice none 0 0) 1 := by unfold zeroIs; kernel_rfl
theorem el192 : ElemIs Try.prog 192 4 (.bool false) 1 1 := ⟨Try.underlying192, by kernel_rfl, rfl, by decide⟩
theorem sz193 : (Try.prog.info? 193).map (·.size) = some 1 := by kernel_rfl
theorem zr193 : zeroIs Try.prog 193 (.nilFunc) 1 := by unfold zeroIs; kernel_rfl
theorem sz194 : (Try.prog.info? 194).map (·.size) = some 1 := by kernel_rfl
theorem zr194 : zeroIs Try.prog 194 (.nilFunc) 1 := by unfold zeroIs; kernel_rfl
theorem sz195 : (Try.prog.info? 195).map (·.size) = some 4 := by kernel_rfl
theorem zr195 : zeroIs Try.prog 195 (.agg [.pointer none, .pointer none, .pointer none, .string ByteArray.empty].toArray) 4 := by unfold zeroIs; kernel_rfl
theorem pl195 {fs : Array Field} (h : Try.prog.underlying 195 = some (.struct fs)) : placesOf Try.prog fs [(0, 1), (1, 1), (2, 1), (3, 1)] := by
  have h1 := Option.some.inj (Try.underlying195.symm.trans h)
  injection h1 with h1
  subst h1
  unfold placesOf
  intro w
  kernel_rfl
theorem sz196 : (Try.prog.info? 196).map (·.size) = some 4 := by kernel_rfl
theorem zr196 : zeroIs Try.prog 196 (.agg [.pointer none, .pointer none, .pointer none, .string ByteArray.empty].toArray) 4 := by unfold zeroIs; kernel_rfl
theorem pl196 {fs : Array Field} (h : Try.prog.underlying 196 = some (.struct fs)) : placesOf Try.prog fs [(0, 1), (1, 1), (2, 1), (3, 1)] := by
  have h1 := Option.some.inj (Try.underlying196.symm.trans h)
  injection h1 with h1
  subst h1
  unfold placesOf
  intro w
  kernel_rfl
theorem sz197 : (Try.prog.info? 197).map (·.size) = some 0 := by kernel_rfl
theorem zr197 : zeroIs Try.prog 197 (.agg [].toArray) 0 := by unfold zeroIs; kernel_rfl
theorem sz198 : (Try.prog.info? 198).map (·.size) = some 0 := by kernel_rfl
theorem zr198 : zeroIs Try.prog 198 (.agg [].toArray) 0 := by unfold zeroIs; kernel_rfl
theorem pl198 {fs : Array Field} (h : Try.prog.underlying 198 = some (.struct fs)) : placesOf Try.prog fs [(0, 0)] := by
  have h1 := Option.some.inj (Try.underlying198.symm.trans h)
  injection h1 with h1
  subst h1
  unfold placesOf
  intro w
  kernel_rfl
theorem sz199 : (Try.prog.info? 199).map (·.size) = some 0 := by kernel_rfl
theorem zr199 : zeroIs Try.prog 199 (.agg [].toArray) 0 := by unfold zeroIs; kernel_rfl
theorem pl199 {fs : Array Field} (h : Try.prog.underlying 199 = some (.struct fs)) : placesOf Try.prog fs [(0, 0)] := by
  have h1 := Option.some.inj (Try.underlying199.symm.trans h)
  injection h1 with h1
  subst h1
  unfold placesOf
  intro w
  kernel_rfl
theorem sz200 : (Try.prog.info? 200).map (·.size) = some 1 := by kernel_rfl
theorem zr200 : zeroIs Try.prog 200 (.int .u32 0) 1 := by unfold zeroIs; kernel_rfl
theorem sz201 : (Try.prog.info? 201).map (·.size) = some 1 := by kernel_rfl
theorem zr201 : zeroIs Try.prog 201 (.int .u8 0) 1 := by unfold zeroIs; kernel_rfl
theorem sz202 : (Try.prog.info? 202).map (·.size) = some 1 := by kernel_rfl
theorem zr202 : zeroIs Try.prog 202 (.int .u8 0) 1 := by unfold zeroIs; kernel_rfl
theorem sz203 : (Try.prog.info? 203).map (·.size) = some 1 := by kernel_rfl
theorem zr203 : zeroIs Try.prog 203 (.nilFunc) 1 := by unfold zeroIs; kernel_rfl
theorem sz204 : (Try.prog.info? 204).map (·.size) = some 1 := by kernel_rfl
theorem zr204 : zeroIs Try.prog 204 (.pointer none) 1 := by unfold zeroIs; kernel_rfl
theorem sz205 : (Try.prog.info? 205).map (·.size) = some 1 := by kernel_rfl
theorem zr205 : zeroIs Try.prog 205 (.int .i32 0) 1 := by unfold zeroIs; kernel_rfl
theorem sz206 : (Try.prog.info? 206).map (·.size) = some 1 := by kernel_rfl
theorem zr206 : zeroIs Try.prog 206 (.int .i32 0) 1 := by unfold zeroIs; kernel_rfl
theorem sz207 : (Try.prog.info? 207).map (·.size) = some 11 := by kernel_rfl
theorem zr207 : zeroIs Try.prog 207 (.agg [.int .u64 0, .int .u64 0, .int .u32 0, .int .u8 0, .int .u8 0, .int .u8 0, .int .u8 0, .nilFunc, .pointer none, .int .i32 0, .int .i32 0].toArray) 11 := by unfold zeroIs; kernel_rfl
theorem pl207 {fs : Array Field} (h : Try.prog.underlying 207 = some (.struct fs)) : placesOf Try.prog fs [(0, 1), (1, 1), (2, 1), (3, 1), (4, 1), (5, 1), (6, 1), (7, 1), (8, 1), (9, 1), (10, 1)] := by
  have h1 := Option.some.inj (Try.underlying207.symm.trans h)
  injection h1 with h1
  subst h1
  unfold placesOf
  intro w
  kernel_rfl
theorem sz208 : (Try.prog.info? 208).map (·.size) = some 11 := by kernel_rfl
theorem zr208 : zeroIs Try.prog 208 (.agg [.int .u64 0, .int .u64 0, .int .u32 0, .int .u8 0, .int .u8 0, .int .u8 0, .int .u8 0, .nilFunc, .pointer none, .int .i32 0, .int .i32 0].toArray) 11 := by unfold zeroIs; kernel_rfl
theorem pl208 {fs : Array Field} (h : Try.prog.underlying 208 = some (.struct fs)) : placesOf Try.prog fs [(0, 1), (1, 1), (2, 1), (3, 1), (4, 1), (5, 1), (6, 1), (7, 1), (8, 1), (9, 1), (10, 1)] := by
  have h1 := Option.some.inj (Try.underlying208.symm.trans h)
  injection h1 with h1
  subst h1
  unfold placesOf
  intro w
  kernel_rfl
theorem fnF2 : FnIs Try.prog 2 Try.f2 := ⟨Try.func2, by kernel_rfl, by kernel_rfl⟩
theorem fnF3 : FnIs Try.prog 3 Try.f3 := ⟨Try.func3, by kernel_rfl, by kernel_rfl⟩
theorem fnF4 : FnIs Try.prog 4 Try.f4 := ⟨Try.func4, by kernel_rfl, by kernel_rfl⟩
theorem fnF5 : FnIs Try.prog 5 Try.f5 := ⟨Try.func5, by kernel_rfl, by kernel_rfl⟩
theorem fnF6 : FnIs Try.prog 6 Try.f6 := ⟨Try.func6, by kernel_rfl, by kernel_rfl⟩
theorem fnF7 : FnIs Try.prog 7 Try.f7 := ⟨Try.func7, by kernel_rfl, by kernel_rfl⟩
theorem fnF8 : FnIs Try.prog 8 Try.f8 := ⟨Try.func8, by kernel_rfl, by kernel_rfl⟩
theorem fnF9 : FnIs Try.prog 9 Try.f9 := ⟨Try.func9, by kernel_rfl, by kernel_rfl⟩
theorem fnF10 : FnIs Try.prog 10 Try.f10 := ⟨Try.func10, by kernel_rfl, by kernel_rfl⟩
theorem fnF11 : FnIs Try.prog 11 Try.f11 := ⟨Try.func11, by kernel_rfl, by kernel_rfl⟩
theorem fnF12 : FnIs Try.prog 12 Try.f12 := ⟨Try.func12, by kernel_rfl, by kernel_rfl⟩
theorem fnF13 : FnIs Try.prog 13 Try.f13 := ⟨Try.func13, by kernel_rfl, by kernel_rfl⟩
theorem fnF14 : FnIs Try.prog 14 Try.f14 := ⟨Try.func14, by kernel_rfl, by kernel_rfl⟩
theorem fnF15 : FnIs Try.prog 15 Try.f15 := ⟨Try.func15, by kernel_rfl, by kernel_rfl⟩
theorem fnF16 : FnIs Try.prog 16 Try.f16 := ⟨Try.func16, by kernel_rfl, by kernel_rfl⟩
theorem fnF17 : FnIs Try.prog 17 Try.f17 := ⟨Try.func17, by kernel_rfl, by kernel_rfl⟩
theorem fnF18 : FnIs Try.prog 18 Try.f18 := ⟨Try.func18, by kernel_rfl, by kernel_rfl⟩
theorem fnF19 : FnIs Try.prog 19 Try.f19 := ⟨Try.func19, by kernel_rfl, by kernel_rfl⟩
theorem fnF20 : FnIs Try.prog 20 Try.f20 := ⟨Try.func20, by kernel_rfl, by kernel_rfl⟩
theorem fnF21 : FnIs Try.prog 21 Try.f21 := ⟨Try.func21, by kernel_rfl, by kernel_rfl⟩
theorem fnF22 : FnIs Try.prog 22 Try.f22 := ⟨Try.func22, by kernel_rfl, by kernel_rfl⟩
theorem fnF23 : FnIs Try.prog 23 Try.f23 := ⟨Try.func23, by kernel_rfl, by kernel_rfl⟩
theorem fnF24 : FnIs Try.prog 24 Try.f24 := ⟨Try.func24, by kernel_rfl, by kernel_rfl⟩
theorem fnF25 : FnIs Try.prog 25 Try.f25 := ⟨Try.func25, by kernel_rfl, by kernel_rfl⟩
theorem fnF26 : FnIs Try.prog 26 Try.f26 := ⟨Try.func26, by kernel_rfl, by kernel_rfl⟩
theorem fnF27 : FnIs Try.prog 27 Try.f27 := ⟨Try.func27, by kernel_rfl, by kernel_rfl⟩
theorem fnF28 : FnIs Try.prog 28 Try.f28 := ⟨Try.func28, by kernel_rfl, by kernel_rfl⟩
theorem fnF29 : FnIs Try.prog 29 Try.f29 := ⟨Try.func29, by kernel_rfl, by kernel_rfl⟩
theorem fnF30 : FnIs Try.prog 30 Try.f30 := ⟨Try.func30, by kernel_rfl, by kernel_rfl⟩
theorem fnF31 : FnIs Try.prog 31 Try.f31 := ⟨Try.func31, by kernel_rfl, by kernel_rfl⟩
theorem fnF32 : FnIs Try.prog 32 Try.f32 := ⟨Try.func32, by kernel_rfl, by kernel_rfl⟩
theorem fnF33 : FnIs Try.prog 33 Try.f33 := ⟨Try.func33, by kernel_rfl, by kernel_rfl⟩
theorem fnF34 : FnIs Try.prog 34 Try.f34 := ⟨Try.func34, by kernel_rfl, by kernel_rfl⟩
theorem fnF35 : FnIs Try.prog 35 Try.f35 := ⟨Try.func35, by kernel_rfl, by kernel_rfl⟩
theorem fnF36 : FnIs Try.prog 36 Try.f36 := ⟨Try.func36, by kernel_rfl, by kernel_rfl⟩
theorem fnF37 : FnIs Try.prog 37 Try.f37 := ⟨Try.func37, by kernel_rfl, by kernel_rfl⟩
theorem fnF38 : FnIs Try.prog 38 Try.f38 := ⟨Try.func38, by kernel_rfl, by kernel_rfl⟩
theorem fnF39 : FnIs Try.prog 39 Try.f39 := ⟨Try.func39, by kernel_rfl, by kernel_rfl⟩
theorem fnF40 : FnIs Try.prog 40 Try.f40 := ⟨Try.func40, by kernel_rfl, by kernel_rfl⟩
theorem fnF41 : FnIs Try.prog 41 Try.f41 := ⟨Try.func41, by kernel_rfl, by kernel_rfl⟩
theorem fnF42 : FnIs Try.prog 42 Try.f42 := ⟨Try.func42, by kernel_rfl, by kernel_rfl⟩
theorem fnF43 : FnIs Try.prog 43 Try.f43 := ⟨Try.func43, by kernel_rfl, by kernel_rfl⟩
theorem fnF44 : FnIs Try.prog 44 Try.f44 := ⟨Try.func44, by kernel_rfl, by kernel_rfl⟩
theorem fnF45 : FnIs Try.prog 45 Try.f45 := ⟨Try.func45, by kernel_rfl, by kernel_rfl⟩
theorem fnF46 : FnIs Try.prog 46 Try.f46 := ⟨Try.func46, by kernel_rfl, by kernel_rfl⟩
theorem fnF47 : FnIs Try.prog 47 Try.f47 := ⟨Try.func47, by kernel_rfl, by kernel_rfl⟩
theorem fnF48 : FnIs Try.prog 48 Try.f48 := ⟨Try.func48, by kernel_rfl, by kernel_rfl⟩
theorem fnF49 : FnIs Try.prog 49 Try.f49 := ⟨Try.func49, by kernel_rfl, by kernel_rfl⟩
theorem fnF50 : FnIs Try.prog 50 Try.f50 := ⟨Try.func50, by kernel_rfl, by kernel_rfl⟩
theorem fnF51 : FnIs Try.prog 51 Try.f51 := ⟨Try.func51, by kernel_rfl, by kernel_rfl⟩
theorem fnF52 : FnIs Try.prog 52 Try.f52 := ⟨Try.func52, by kernel_rfl, by kernel_rfl⟩
theorem fnF53 : FnIs Try.prog 53 Try.f53 := ⟨Try.func53, by kernel_rfl, by kernel_rfl⟩
theorem fnF54 : FnIs Try.prog 54 Try.f54 := ⟨Try.func54, by kernel_rfl, by kernel_rfl⟩
theorem fnF55 : FnIs Try.prog 55 Try.f55 := ⟨Try.func55, by kernel_rfl, by kernel_rfl⟩
theorem fnF56 : FnIs Try.prog 56 Try.f56 := ⟨Try.func56, by kernel_rfl, by kernel_rfl⟩
theorem fnF57 : FnIs Try.prog 57 Try.f57 := ⟨Try.func57, by kernel_rfl, by kernel_rfl⟩
theorem fnF58 : FnIs Try.prog 58 Try.f58 := ⟨Try.func58, by kernel_rfl, by kernel_rfl⟩
theorem fnF59 : FnIs Try.prog 59 Try.f59 := ⟨Try.func59, by kernel_rfl, by kernel_rfl⟩
theorem fnF60 : FnIs Try.prog 60 Try.f60 := ⟨Try.func60, by kernel_rfl, by kernel_rfl⟩
theorem fnF61 : FnIs Try.prog 61 Try.f61 := ⟨Try.func61, by kernel_rfl, by kernel_rfl⟩
theorem fnF62 : FnIs Try.prog 62 Try.f62 := ⟨Try.func62, by kernel_rfl, by kernel_rfl⟩
theorem fnF63 : FnIs Try.prog 63 Try.f63 := ⟨Try.func63, by kernel_rfl, by kernel_rfl⟩
theorem fnF64 : FnIs Try.prog 64 Try.f64 := ⟨Try.func64, by kernel_rfl, by kernel_rfl⟩
theorem fnF65 : FnIs Try.prog 65 Try.f65 := ⟨Try.func65, by kernel_rfl, by kernel_rfl⟩
theorem fnF66 : FnIs Try.prog 66 Try.f66 := ⟨Try.func66, by kernel_rfl, by kernel_rfl⟩
theorem fnF67 : FnIs Try.prog 67 Try.f67 := ⟨Try.func67, by kernel_rfl, by kernel_rfl⟩
theorem fnF68 : FnIs Try.prog 68 Try.f68 := ⟨Try.func68, by kernel_rfl, by kernel_rfl⟩
theorem fnF69 : FnIs Try.prog 69 Try.f69 := ⟨Try.func69, by kernel_rfl, by kernel_rfl⟩
theorem fnF70 : FnIs Try.prog 70 Try.f70 := ⟨Try.func70, by kernel_rfl, by kernel_rfl⟩
theorem fnF71 : FnIs Try.prog 71 Try.f71 := ⟨Try.func71, by kernel_rfl, by kernel_rfl⟩
theorem fnF72 : FnIs Try.prog 72 Try.f72 := ⟨Try.func72, by kernel_rfl, by kernel_rfl⟩
theorem fnF73 : FnIs Try.prog 73 Try.f73 := ⟨Try.func73, by kernel_rfl, by kernel_rfl⟩
theorem fnF74 : FnIs Try.prog 74 Try.f74 := ⟨Try.func74, by kernel_rfl, by kernel_rfl⟩
theorem fnF75 : FnIs Try.prog 75 Try.f75 := ⟨Try.func75, by kernel_rfl, by kernel_rfl⟩
theorem fnF76 : FnIs Try.prog 76 Try.f76 := ⟨Try.func76, by kernel_rfl, by kernel_rfl⟩
theorem fnF77 : FnIs Try.prog 77 Try.f77 := ⟨Try.func77, by kernel_rfl, by kernel_rfl⟩
theorem fnF78 : FnIs Try.prog 78 Try.f78 := ⟨Try.func78, by kernel_rfl, by kernel_rfl⟩
theorem fnF79 : FnIs Try.prog 79 Try.f79 := ⟨Try.func79, by kernel_rfl, by kernel_rfl⟩
theorem fnF80 : FnIs Try.prog 80 Try.f80 := ⟨Try.func80, by kernel_rfl, by kernel_rfl⟩
theorem fnF81 : FnIs Try.prog 81 Try.f81 := ⟨Try.func81, by kernel_rfl, by kernel_rfl⟩
theorem fnF82 : FnIs Try.prog 82 Try.f82 := ⟨Try.func82, by kernel_rfl, by kernel_rfl⟩
theorem fnF83 : FnIs Try.prog 83 Try.f83 := ⟨Try.func83, by kernel_rfl, by kernel_rfl⟩
theorem fnF84 : FnIs Try.prog 84 Try.f84 := ⟨Try.func84, by kernel_rfl, by kernel_rfl⟩
theorem fnF85 : FnIs Try.prog 85 Try.f85 := ⟨Try.func85, by kernel_rfl, by kernel_rfl⟩
theorem fnF86 : FnIs Try.prog 86 Try.f86 := ⟨Try.func86, by kernel_rfl, by kernel_rfl⟩
theorem fnF87 : FnIs Try.prog 87 Try.f87 := ⟨Try.func87, by kernel_rfl, by kernel_rfl⟩
theorem fnF88 : FnIs Try.prog 88 Try.f88 := ⟨Try.func88, by kernel_rfl, by kernel_rfl⟩
theorem fnF89 : FnIs Try.prog 89 Try.f89 := ⟨Try.func89, by kernel_rfl, by kernel_rfl⟩
theorem fnF90 : FnIs Try.prog 90 Try.f90 := ⟨Try.func90, by kernel_rfl, by kernel_rfl⟩
theorem fnF91 : FnIs Try.prog 91 Try.f91 := ⟨Try.func91, by kernel_rfl, by kernel_rfl⟩
theorem fnF92 : FnIs Try.prog 92 Try.f92 := ⟨Try.func92, by kernel_rfl, by kernel_rfl⟩
theorem fnF93 : FnIs Try.prog 93 Try.f93 := ⟨Try.func93, by kernel_rfl, by kernel_rfl⟩
theorem fnF94 : FnIs Try.prog 94 Try.f94 := ⟨Try.func94, by kernel_rfl, by kernel_rfl⟩
theorem fnF95 : FnIs Try.prog 95 Try.f95 := ⟨Try.func95, by kernel_rfl, by kernel_rfl⟩
theorem fnF96 : FnIs Try.prog 96 Try.f96 := ⟨Try.func96, by kernel_rfl, by kernel_rfl⟩
theorem fnF97 : FnIs Try.prog 97 Try.f97 := ⟨Try.func97, by kernel_rfl, by kernel_rfl⟩
theorem fnF98 : FnIs Try.prog 98 Try.f98 := ⟨Try.func98, by kernel_rfl, by kernel_rfl⟩
theorem fnF99 : FnIs Try.prog 99 Try.f99 := ⟨Try.func99, by kernel_rfl, by kernel_rfl⟩
theorem fnF100 : FnIs Try.prog 100 Try.f100 := ⟨Try.func100, by kernel_rfl, by kernel_rfl⟩
theorem fnF101 : FnIs Try.prog 101 Try.f101 := ⟨Try.func101, by kernel_rfl, by kernel_rfl⟩
theorem fnF102 : FnIs Try.prog 102 Try.f102 := ⟨Try.func102, by kernel_rfl, by kernel_rfl⟩
theorem fnF103 : FnIs Try.prog 103 Try.f103 := ⟨Try.func103, by kernel_rfl, by kernel_rfl⟩
theorem fnF104 : FnIs Try.prog 104 Try.f104 := ⟨Try.func104, by kernel_rfl, by kernel_rfl⟩
theorem fnF105 : FnIs Try.prog 105 Try.f105 := ⟨Try.func105, by kernel_rfl, by kernel_rfl⟩
theorem fnF106 : FnIs Try.prog 106 Try.f106 := ⟨Try.func106, by kernel_rfl, by kernel_rfl⟩
theorem fnF107 : FnIs Try.prog 107 Try.f107 := ⟨Try.func107, by kernel_rfl, by kernel_rfl⟩
theorem fnF108 : FnIs Try.prog 108 Try.f108 := ⟨Try.func108, by kernel_rfl, by kernel_rfl⟩
theorem fnF109 : FnIs Try.prog 109 Try.f109 := ⟨Try.func109, by kernel_rfl, by kernel_rfl⟩
theorem fnF110 : FnIs Try.prog 110 Try.f110 := ⟨Try.func110, by kernel_rfl, by kernel_rfl⟩
theorem fnF111 : FnIs Try.prog 111 Try.f111 := ⟨Try.func111, by kernel_rfl, by kernel_rfl⟩
theorem fnF112 : FnIs Try.prog 112 Try.f112 := ⟨Try.func112, by kernel_rfl, by kernel_rfl⟩
theorem fnF113 : FnIs Try.prog 113 Try.f113 := ⟨Try.func113, by kernel_rfl, by kernel_rfl⟩
theorem fnF115 : FnIs Try.prog 115 Try.f115 := ⟨Try.func115, by kernel_rfl, by kernel_rfl⟩
theorem fnF116 : FnIs Try.prog 116 Try.f116 := ⟨Try.func116, by kernel_rfl, by kernel_rfl⟩
theorem fnF117 : FnIs Try.prog 117 Try.f117 := ⟨Try.func117, by kernel_rfl, by kernel_rfl⟩
theorem fnF118 : FnIs Try.prog 118 Try.f118 := ⟨Try.func118, by kernel_rfl, by kernel_rfl⟩
end Go.Proofs.Ytlgfinchhnbhdaa
