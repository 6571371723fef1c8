/- Sizes, zeros and places of the types. -/
import Derived.Test.YtompmejidaddoaaDoorEngI
import Derived.Test.YtompmejidaddoaaDoorProg
import Derived.KernelRfl
set_option linter.unusedVariables false
namespace Go.Proofs.YtompmejidaddoaaDoor
open Go Go.RowKit
def bodyOf (fn : Func) : Code := fn.body.getD .skip
theorem mixed : Tryd.prog.follows .mixedOrders = true := by kernel_rfl
theorem sz1 : (Tryd.prog.info? 1).map (·.size) = some 1 := by kernel_rfl
theorem zr1 : zeroIs Tryd.prog 1 (.nilFunc) 1 := by unfold zeroIs; kernel_rfl
theorem sz2 : (Tryd.prog.info? 2).map (·.size) = some 1 := by kernel_rfl
theorem zr2 : zeroIs Tryd.prog 2 (.int .i64 0) 1 := by unfold zeroIs; kernel_rfl
theorem sz3 : (Tryd.prog.info? 3).map (·.size) = some 1 := by kernel_rfl
theorem zr3 : zeroIs Tryd.prog 3 (.int .i64 0) 1 := by unfold zeroIs; kernel_rfl
theorem sz4 : (Tryd.prog.info? 4).map (·.size) = some 1 := by kernel_rfl
theorem zr4 : zeroIs Tryd.prog 4 (.bool false) 1 := by unfold zeroIs; kernel_rfl
theorem sz5 : (Tryd.prog.info? 5).map (·.size) = some 1 := by kernel_rfl
theorem zr5 : zeroIs Tryd.prog 5 (.int .u8 0) 1 := by unfold zeroIs; kernel_rfl
theorem sz6 : (Tryd.prog.info? 6).map (·.size) = some 1 := by kernel_rfl
theorem zr6 : zeroIs Tryd.prog 6 (.int .u8 0) 1 := by unfold zeroIs; kernel_rfl
theorem sz7 : (Tryd.prog.info? 7).map (·.size) = some 4 := by kernel_rfl
theorem zr7 : zeroIs Tryd.prog 7 (.agg [.int .i64 0, .int .i64 0, .bool false, .int .u8 0].toArray) 4 := by unfold zeroIs; kernel_rfl
theorem pl7 {fs : Array Field} (h : Tryd.prog.underlying 7 = some (.struct fs)) : placesOf Tryd.prog fs [(0, 1), (1, 1), (2, 1), (3, 1)] := by
  have h1 := Option.some.inj (Tryd.underlying7.symm.trans h)
  injection h1 with h1
  subst h1
  unfold placesOf
  intro w
  kernel_rfl
theorem sz8 : (Tryd.prog.info? 8).map (·.size) = some 4 := by kernel_rfl
theorem zr8 : zeroIs Tryd.prog 8 (.agg [.int .i64 0, .int .i64 0, .bool false, .int .u8 0].toArray) 4 := by unfold zeroIs; kernel_rfl
theorem pl8 {fs : Array Field} (h : Tryd.prog.underlying 8 = some (.struct fs)) : placesOf Tryd.prog fs [(0, 1), (1, 1), (2, 1), (3, 1)] := by
  have h1 := Option.some.inj (Tryd.underlying8.symm.trans h)
  injection h1 with h1
  subst h1
  unfold placesOf
  intro w
  kernel_rfl
theorem sz9 : (Tryd.prog.info? 9).map (·.size) = some 1 := by kernel_rfl
theorem zr9 : zeroIs Tryd.prog 9 (.string ByteArray.empty) 1 := by unfold zeroIs; kernel_rfl
theorem sz10 : (Tryd.prog.info? 10).map (·.size) = some 1 := by kernel_rfl
theorem zr10 : zeroIs Tryd.prog 10 (.string ByteArray.empty) 1 := by unfold zeroIs; kernel_rfl
theorem sz11 : (Tryd.prog.info? 11).map (·.size) = some 1 := by kernel_rfl
theorem zr11 : zeroIs Tryd.prog 11 (.string ByteArray.empty) 1 := by unfold zeroIs; kernel_rfl
theorem sz12 : (Tryd.prog.info? 12).map (·.size) = some 1 := by kernel_rfl
theorem zr12 : zeroIs Tryd.prog 12 (.int .u64 0) 1 := by unfold zeroIs; kernel_rfl
theorem sz13 : (Tryd.prog.info? 13).map (·.size) = some 2 := by kernel_rfl
theorem zr13 : zeroIs Tryd.prog 13 (.agg [.string ByteArray.empty, .int .u64 0].toArray) 2 := by unfold zeroIs; kernel_rfl
theorem pl13 {fs : Array Field} (h : Tryd.prog.underlying 13 = some (.struct fs)) : placesOf Tryd.prog fs [(0, 1), (1, 1)] := by
  have h1 := Option.some.inj (Tryd.underlying13.symm.trans h)
  injection h1 with h1
  subst h1
  unfold placesOf
  intro w
  kernel_rfl
theorem sz14 : (Tryd.prog.info? 14).map (·.size) = some 2 := by kernel_rfl
theorem zr14 : zeroIs Tryd.prog 14 (.agg [.string ByteArray.empty, .int .u64 0].toArray) 2 := by unfold zeroIs; kernel_rfl
theorem pl14 {fs : Array Field} (h : Tryd.prog.underlying 14 = some (.struct fs)) : placesOf Tryd.prog fs [(0, 1), (1, 1)] := by
  have h1 := Option.some.inj (Tryd.underlying14.symm.trans h)
  injection h1 with h1
  subst h1
  unfold placesOf
  intro w
  kernel_rfl
theorem sz15 : (Tryd.prog.info? 15).map (·.size) = some 1 := by kernel_rfl
theorem zr15 : zeroIs Tryd.prog 15 (.pointer none) 1 := by unfold zeroIs; kernel_rfl
theorem sz16 : (Tryd.prog.info? 16).map (·.size) = some 1 := by kernel_rfl
theorem zr16 : zeroIs Tryd.prog 16 (.pointer none) 1 := by unfold zeroIs; kernel_rfl
theorem sz17 : (Tryd.prog.info? 17).map (·.size) = some 1 := by kernel_rfl
theorem zr17 : zeroIs Tryd.prog 17 (.pointer none) 1 := by unfold zeroIs; kernel_rfl
theorem sz18 : (Tryd.prog.info? 18).map (·.size) = some 1 := by kernel_rfl
theorem zr18 : zeroIs Tryd.prog 18 (.agg [.pointer none].toArray) 1 := by unfold zeroIs; kernel_rfl
theorem pl18 {fs : Array Field} (h : Tryd.prog.underlying 18 = some (.struct fs)) : placesOf Tryd.prog fs [(0, 1)] := by
  have h1 := Option.some.inj (Tryd.underlying18.symm.trans h)
  injection h1 with h1
  subst h1
  unfold placesOf
  intro w
  kernel_rfl
theorem sz19 : (Tryd.prog.info? 19).map (·.size) = some 1 := by kernel_rfl
theorem zr19 : zeroIs Tryd.prog 19 (.agg [.pointer none].toArray) 1 := by unfold zeroIs; kernel_rfl
theorem pl19 {fs : Array Field} (h : Tryd.prog.underlying 19 = some (.struct fs)) : placesOf Tryd.prog fs [(0, 1)] := by
  have h1 := Option.some.inj (Tryd.underlying19.symm.trans h)
  injection h1 with h1
  subst h1
  unfold placesOf
  intro w
  kernel_rfl
theorem sz21 : (Tryd.prog.info? 21).map (·.size) = some 1 := by kernel_rfl
theorem zr21 : zeroIs Tryd.prog 21 (.int .i32 0) 1 := by unfold zeroIs; kernel_rfl
theorem sz22 : (Tryd.prog.info? 22).map (·.size) = some 1 := by kernel_rfl
theorem zr22 : zeroIs Tryd.prog 22 (.slice none 0 0) 1 := by unfold zeroIs; kernel_rfl
theorem el22 : ElemIs Tryd.prog 22 36 (.int .i16 0) 1 2 := ⟨Tryd.underlying22, by kernel_rfl, rfl, by decide⟩
theorem sz23 : (Tryd.prog.info? 23).map (·.size) = some 1 := by kernel_rfl
theorem zr23 : zeroIs Tryd.prog 23 (.slice none 0 0) 1 := by unfold zeroIs; kernel_rfl
theorem el23 : ElemIs Tryd.prog 23 9 (.string ByteArray.empty) 1 16 := ⟨Tryd.underlying23, by kernel_rfl, rfl, by decide⟩
theorem sz24 : (Tryd.prog.info? 24).map (·.size) = some 1 := by kernel_rfl
theorem zr24 : zeroIs Tryd.prog 24 (.nilFunc) 1 := by unfold zeroIs; kernel_rfl
theorem sz25 : (Tryd.prog.info? 25).map (·.size) = some 1 := by kernel_rfl
theorem zr25 : zeroIs Tryd.prog 25 (.slice none 0 0) 1 := by unfold zeroIs; kernel_rfl
theorem el25 : ElemIs Tryd.prog 25 84 (.int .u64 0) 1 8 := ⟨Tryd.underlying25, by kernel_rfl, rfl, by decide⟩
theorem sz26 : (Tryd.prog.info? 26).map (·.size) = some 1 := by kernel_rfl
theorem zr26 : zeroIs Tryd.prog 26 (.agg [.slice none 0 0].toArray) 1 := by unfold zeroIs; kernel_rfl
theorem pl26 {fs : Array Field} (h : Tryd.prog.underlying 26 = some (.struct fs)) : placesOf Tryd.prog fs [(0, 1)] := by
  have h1 := Option.some.inj (Tryd.underlying26.symm.trans h)
  injection h1 with h1
  subst h1
  unfold placesOf
  intro w
  kernel_rfl
theorem sz27 : (Tryd.prog.info? 27).map (·.size) = some 1 := by kernel_rfl
theorem zr27 : zeroIs Tryd.prog 27 (.agg [.slice none 0 0].toArray) 1 := by unfold zeroIs; kernel_rfl
theorem pl27 {fs : Array Field} (h : Tryd.prog.underlying 27 = some (.struct fs)) : placesOf Tryd.prog fs [(0, 1)] := by
  have h1 := Option.some.inj (Tryd.underlying27.symm.trans h)
  injection h1 with h1
  subst h1
  unfold placesOf
  intro w
  kernel_rfl
theorem sz28 : (Tryd.prog.info? 28).map (·.size) = some 1 := by kernel_rfl
theorem zr28 : zeroIs Tryd.prog 28 (.agg [.slice none 0 0].toArray) 1 := by unfold zeroIs; kernel_rfl
theorem pl28 {fs : Array Field} (h : Tryd.prog.underlying 28 = some (.struct fs)) : placesOf Tryd.prog fs [(0, 1)] := by
  have h1 := Option.some.inj (Tryd.underlying28.symm.trans h)
  injection h1 with h1
  subst h1
  unfold placesOf
  intro w
  kernel_rfl
theorem sz29 : (Tryd.prog.info? 29).map (·.size) = some 1 := by kernel_rfl
theorem zr29 : zeroIs Tryd.prog 29 (.slice none 0 0) 1 := by unfold zeroIs; kernel_rfl
theorem el29 : ElemIs Tryd.prog 29 42 (.agg [.string ByteArray.empty, .string ByteArray.empty].toArray) 2 32 := ⟨Tryd.underlying29, by kernel_rfl, rfl, by decide⟩
theorem sz30 : (Tryd.prog.info? 30).map (·.size) = some 1 := by kernel_rfl
theorem zr30 : zeroIs Tryd.prog 30 (.map none) 1 := by unfold zeroIs; kernel_rfl
theorem sz31 : (Tryd.prog.info? 31).map (·.size) = some 2 := by kernel_rfl
theorem zr31 : zeroIs Tryd.prog 31 (.agg [.slice none 0 0, .map none].toArray) 2 := by unfold zeroIs; kernel_rfl
theorem pl31 {fs : Array Field} (h : Tryd.prog.underlying 31 = some (.struct fs)) : placesOf Tryd.prog fs [(0, 1), (1, 1)] := by
  have h1 := Option.some.inj (Tryd.underlying31.symm.trans h)
  injection h1 with h1
  subst h1
  unfold placesOf
  intro w
  kernel_rfl
theorem sz32 : (Tryd.prog.info? 32).map (·.size) = some 2 := by kernel_rfl
theorem zr32 : zeroIs Tryd.prog 32 (.agg [.slice none 0 0, .map none].toArray) 2 := by unfold zeroIs; kernel_rfl
theorem pl32 {fs : Array Field} (h : Tryd.prog.underlying 32 = some (.struct fs)) : placesOf Tryd.prog fs [(0, 1), (1, 1)] := by
  have h1 := Option.some.inj (Tryd.underlying32.symm.trans h)
  injection h1 with h1
  subst h1
  unfold placesOf
  intro w
  kernel_rfl
theorem sz33 : (Tryd.prog.info? 33).map (·.size) = some 1 := by kernel_rfl
theorem zr33 : zeroIs Tryd.prog 33 (.slice none 0 0) 1 := by unfold zeroIs; kernel_rfl
theorem el33 : ElemIs Tryd.prog 33 22 (.slice none 0 0) 1 24 := ⟨Tryd.underlying33, by kernel_rfl, rfl, by decide⟩
theorem sz34 : (Tryd.prog.info? 34).map (·.size) = some 2 := by kernel_rfl
theorem zr34 : zeroIs Tryd.prog 34 (.agg [.slice none 0 0, .slice none 0 0].toArray) 2 := by unfold zeroIs; kernel_rfl
theorem pl34 {fs : Array Field} (h : Tryd.prog.underlying 34 = some (.struct fs)) : placesOf Tryd.prog fs [(0, 1), (1, 1)] := by
  have h1 := Option.some.inj (Tryd.underlying34.symm.trans h)
  injection h1 with h1
  subst h1
  unfold placesOf
  intro w
  kernel_rfl
theorem sz35 : (Tryd.prog.info? 35).map (·.size) = some 2 := by kernel_rfl
theorem zr35 : zeroIs Tryd.prog 35 (.agg [.slice none 0 0, .slice none 0 0].toArray) 2 := by unfold zeroIs; kernel_rfl
theorem pl35 {fs : Array Field} (h : Tryd.prog.underlying 35 = some (.struct fs)) : placesOf Tryd.prog fs [(0, 1), (1, 1)] := by
  have h1 := Option.some.inj (Tryd.underlying35.symm.trans h)
  injection h1 with h1
  subst h1
  unfold placesOf
  intro w
  kernel_rfl
theorem sz36 : (Tryd.prog.info? 36).map (·.size) = some 1 := by kernel_rfl
theorem zr36 : zeroIs Tryd.prog 36 (.int .i16 0) 1 := by unfold zeroIs; kernel_rfl
theorem sz37 : (Tryd.prog.info? 37).map (·.size) = some 1 := by kernel_rfl
theorem zr37 : zeroIs Tryd.prog 37 (.nilFunc) 1 := by unfold zeroIs; kernel_rfl
theorem sz38 : (Tryd.prog.info? 38).map (·.size) = some 1 := by kernel_rfl
theorem zr38 : zeroIs Tryd.prog 38 (.int .i64 0) 1 := by unfold zeroIs; kernel_rfl
theorem sz39 : (Tryd.prog.info? 39).map (·.size) = some 1 := by kernel_rfl
theorem zr39 : zeroIs Tryd.prog 39 (.nilFunc) 1 := by unfold zeroIs; kernel_rfl
theorem sz40 : (Tryd.prog.info? 40).map (·.size) = some 1 := by kernel_rfl
theorem zr40 : zeroIs Tryd.prog 40 (.map none) 1 := by unfold zeroIs; kernel_rfl
theorem sz41 : (Tryd.prog.info? 41).map (·.size) = some 1 := by kernel_rfl
theorem zr41 : zeroIs Tryd.prog 41 (.nilFunc) 1 := by unfold zeroIs; kernel_rfl
theorem sz42 : (Tryd.prog.info? 42).map (·.size) = some 2 := by kernel_rfl
theorem zr42 : zeroIs Tryd.prog 42 (.agg [.string ByteArray.empty, .string ByteArray.empty].toArray) 2 := by unfold zeroIs; kernel_rfl
theorem sz43 : (Tryd.prog.info? 43).map (·.size) = some 1 := by kernel_rfl
theorem zr43 : zeroIs Tryd.prog 43 (.nilFunc) 1 := by unfold zeroIs; kernel_rfl
theorem sz44 : (Tryd.prog.info? 44).map (·.size) = some 1 := by kernel_rfl
theorem zr44 : zeroIs Tryd.prog 44 (.slice none 0 0) 1 := by unfold zeroIs; kernel_rfl
theorem el44 : ElemIs Tryd.prog 44 38 (.int .i64 0) 1 8 := ⟨Tryd.underlying44, by kernel_rfl, rfl, by decide⟩
theorem sz45 : (Tryd.prog.info? 45).map (·.size) = some 1 := by kernel_rfl
theorem zr45 : zeroIs Tryd.prog 45 (.nilFunc) 1 := by unfold zeroIs; kernel_rfl
theorem sz46 : (Tryd.prog.info? 46).map (·.size) = some 1 := by kernel_rfl
theorem zr46 : zeroIs Tryd.prog 46 (.slice none 0 0) 1 := by unfold zeroIs; kernel_rfl
theorem el46 : ElemIs Tryd.prog 46 3 (.int .i64 0) 1 8 := ⟨Tryd.underlying46, by kernel_rfl, rfl, by decide⟩
theorem sz47 : (Tryd.prog.info? 47).map (·.size) = some 1 := by kernel_rfl
theorem zr47 : zeroIs Tryd.prog 47 (.nilFunc) 1 := by unfold zeroIs; kernel_rfl
theorem sz48 : (Tryd.prog.info? 48).map (·.size) = some 1 := by kernel_rfl
theorem zr48 : zeroIs Tryd.prog 48 (.nilFunc) 1 := by unfold zeroIs; kernel_rfl
theorem sz49 : (Tryd.prog.info? 49).map (·.size) = some 1 := by kernel_rfl
theorem zr49 : zeroIs Tryd.prog 49 (.nilFunc) 1 := by unfold zeroIs; kernel_rfl
theorem sz50 : (Tryd.prog.info? 50).map (·.size) = some 1 := by kernel_rfl
theorem zr50 : zeroIs Tryd.prog 50 (.nilFunc) 1 := by unfold zeroIs; kernel_rfl
theorem sz51 : (Tryd.prog.info? 51).map (·.size) = some 1 := by kernel_rfl
theorem zr51 : zeroIs Tryd.prog 51 (.slice none 0 0) 1 := by unfold zeroIs; kernel_rfl
theorem el51 : ElemIs Tryd.prog 51 55 (.agg [.int .u8 0, .string ByteArray.empty, .int .i64 0].toArray) 3 32 := ⟨Tryd.underlying51, by kernel_rfl, rfl, by decide⟩
theorem sz52 : (Tryd.prog.info? 52).map (·.size) = some 2 := by kernel_rfl
theorem zr52 : zeroIs Tryd.prog 52 (.agg [.slice none 0 0, .map none].toArray) 2 := by unfold zeroIs; kernel_rfl
theorem pl52 {fs : Array Field} (h : Tryd.prog.underlying 52 = some (.struct fs)) : placesOf Tryd.prog fs [(0, 1), (1, 1)] := by
  have h1 := Option.some.inj (Tryd.underlying52.symm.trans h)
  injection h1 with h1
  subst h1
  unfold placesOf
  intro w
  kernel_rfl
theorem sz53 : (Tryd.prog.info? 53).map (·.size) = some 2 := by kernel_rfl
theorem zr53 : zeroIs Tryd.prog 53 (.agg [.slice none 0 0, .map none].toArray) 2 := by unfold zeroIs; kernel_rfl
theorem pl53 {fs : Array Field} (h : Tryd.prog.underlying 53 = some (.struct fs)) : placesOf Tryd.prog fs [(0, 1), (1, 1)] := by
  have h1 := Option.some.inj (Tryd.underlying53.symm.trans h)
  injection h1 with h1
  subst h1
  unfold placesOf
  intro w
  kernel_rfl
theorem sz54 : (Tryd.prog.info? 54).map (·.size) = some 3 := by kernel_rfl
theorem zr54 : zeroIs Tryd.prog 54 (.agg [.int .u8 0, .string ByteArray.empty, .int .i64 0].toArray) 3 := by unfold zeroIs; kernel_rfl
theorem pl54 {fs : Array Field} (h : Tryd.prog.underlying 54 = some (.struct fs)) : placesOf Tryd.prog fs [(0, 1), (1, 1), (2, 1)] := by
  have h1 := Option.some.inj (Tryd.underlying54.symm.trans h)
  injection h1 with h1
  subst h1
  unfold placesOf
  intro w
  kernel_rfl
theorem sz55 : (Tryd.prog.info? 55).map (·.size) = some 3 := by kernel_rfl
theorem zr55 : zeroIs Tryd.prog 55 (.agg [.int .u8 0, .string ByteArray.empty, .int .i64 0].toArray) 3 := by unfold zeroIs; kernel_rfl
theorem pl55 {fs : Array Field} (h : Tryd.prog.underlying 55 = some (.struct fs)) : placesOf Tryd.prog fs [(0, 1), (1, 1), (2, 1)] := by
  have h1 := Option.some.inj (Tryd.underlying55.symm.trans h)
  injection h1 with h1
  subst h1
  unfold placesOf
  intro w
  kernel_rfl
theorem sz56 : (Tryd.prog.info? 56).map (·.size) = some 1 := by kernel_rfl
theorem zr56 : zeroIs Tryd.prog 56 (.nilFunc) 1 := by unfold zeroIs; kernel_rfl
theorem sz58 : (Tryd.prog.info? 58).map (·.size) = some 1 := by kernel_rfl
theorem zr58 : zeroIs Tryd.prog 58 (.nilFunc) 1 := by unfold zeroIs; kernel_rfl
theorem sz59 : (Tryd.prog.info? 59).map (·.size) = some 1 := by kernel_rfl
theorem zr59 : zeroIs Tryd.prog 59 (.nilFunc) 1 := by unfold zeroIs; kernel_rfl
theorem sz60 : (Tryd.prog.info? 60).map (·.size) = some 2 := by kernel_rfl
theorem zr60 : zeroIs Tryd.prog 60 (.agg [.slice none 0 0, .slice none 0 0].toArray) 2 := by unfold zeroIs; kernel_rfl
theorem pl60 {fs : Array Field} (h : Tryd.prog.underlying 60 = some (.struct fs)) : placesOf Tryd.prog fs [(0, 1), (1, 1)] := by
  have h1 := Option.some.inj (Tryd.underlying60.symm.trans h)
  injection h1 with h1
  subst h1
  unfold placesOf
  intro w
  kernel_rfl
theorem sz61 : (Tryd.prog.info? 61).map (·.size) = some 2 := by kernel_rfl
theorem zr61 : zeroIs Tryd.prog 61 (.agg [.slice none 0 0, .slice none 0 0].toArray) 2 := by unfold zeroIs; kernel_rfl
theorem pl61 {fs : Array Field} (h : Tryd.prog.underlying 61 = some (.struct fs)) : placesOf Tryd.prog fs [(0, 1), (1, 1)] := by
  have h1 := Option.some.inj (Tryd.underlying61.symm.trans h)
  injection h1 with h1
  subst h1
  unfold placesOf
  intro w
  kernel_rfl
theorem sz62 : (Tryd.prog.info? 62).map (·.size) = some 1 := by kernel_rfl
theorem zr62 : zeroIs Tryd.prog 62 (.map none) 1 := by unfold zeroIs; kernel_rfl
theorem sz64 : (Tryd.prog.info? 64).map (·.size) = some 1 := by kernel_rfl
theorem zr64 : zeroIs Tryd.prog 64 (.nilFunc) 1 := by unfold zeroIs; kernel_rfl
theorem sz65 : (Tryd.prog.info? 65).map (·.size) = some 1 := by kernel_rfl
theorem zr65 : zeroIs Tryd.prog 65 (.nilFunc) 1 := by unfold zeroIs; kernel_rfl
theorem sz66 : (Tryd.prog.info? 66).map (·.size) = some 1 := by kernel_rfl
theorem zr66 : zeroIs Tryd.prog 66 (.nilFunc) 1 := by unfold zeroIs; kernel_rfl
theorem sz67 : (Tryd.prog.info? 67).map (·.size) = some 4 := by kernel_rfl
theorem zr67 : zeroIs Tryd.prog 67 (.agg [.int .u8 0, .int .i64 0, .slice none 0 0, .bool false].toArray) 4 := by unfold zeroIs; kernel_rfl
theorem pl67 {fs : Array Field} (h : Tryd.prog.underlying 67 = some (.struct fs)) : placesOf Tryd.prog fs [(0, 1), (1, 1), (2, 1), (3, 1)] := by
  have h1 := Option.some.inj (Tryd.underlying67.symm.trans h)
  injection h1 with h1
  subst h1
  unfold placesOf
  intro w
  kernel_rfl
theorem sz68 : (Tryd.prog.info? 68).map (·.size) = some 4 := by kernel_rfl
theorem zr68 : zeroIs Tryd.prog 68 (.agg [.int .u8 0, .int .i64 0, .slice none 0 0, .bool false].toArray) 4 := by unfold zeroIs; kernel_rfl
theorem pl68 {fs : Array Field} (h : Tryd.prog.underlying 68 = some (.struct fs)) : placesOf Tryd.prog fs [(0, 1), (1, 1), (2, 1), (3, 1)] := by
  have h1 := Option.some.inj (Tryd.underlying68.symm.trans h)
  injection h1 with h1
  subst h1
  unfold placesOf
  intro w
  kernel_rfl
theorem sz69 : (Tryd.prog.info? 69).map (·.size) = some 1 := by kernel_rfl
theorem zr69 : zeroIs Tryd.prog 69 (.pointer none) 1 := by unfold zeroIs; kernel_rfl
theorem sz71 : (Tryd.prog.info? 71).map (·.size) = some 1 := by kernel_rfl
theorem zr71 : zeroIs Tryd.prog 71 (.nilFunc) 1 := by unfold zeroIs; kernel_rfl
theorem sz72 : (Tryd.prog.info? 72).map (·.size) = some 1 := by kernel_rfl
theorem zr72 : zeroIs Tryd.prog 72 (.nilFunc) 1 := by unfold zeroIs; kernel_rfl
theorem sz73 : (Tryd.prog.info? 73).map (·.size) = some 1 := by kernel_rfl
theorem zr73 : zeroIs Tryd.prog 73 (.nilFunc) 1 := by unfold zeroIs; kernel_rfl
theorem sz74 : (Tryd.prog.info? 74).map (·.size) = some 1 := by kernel_rfl
theorem zr74 : zeroIs Tryd.prog 74 (.nilFunc) 1 := by unfold zeroIs; kernel_rfl
theorem sz75 : (Tryd.prog.info? 75).map (·.size) = some 1 := by kernel_rfl
theorem zr75 : zeroIs Tryd.prog 75 (.nilFunc) 1 := by unfold zeroIs; kernel_rfl
theorem sz76 : (Tryd.prog.info? 76).map (·.size) = some 1 := by kernel_rfl
theorem zr76 : zeroIs Tryd.prog 76 (.slice none 0 0) 1 := by unfold zeroIs; kernel_rfl
theorem el76 : ElemIs Tryd.prog 76 68 (.agg [.int .u8 0, .int .i64 0, .slice none 0 0, .bool false].toArray) 4 48 := ⟨Tryd.underlying76, by kernel_rfl, rfl, by decide⟩
theorem sz77 : (Tryd.prog.info? 77).map (·.size) = some 4096 := by kernel_rfl
theorem sz78 : (Tryd.prog.info? 78).map (·.size) = some 4096 := by kernel_rfl
theorem sz79 : (Tryd.prog.info? 79).map (·.size) = some 1 := by kernel_rfl
theorem zr79 : zeroIs Tryd.prog 79 (.nilFunc) 1 := by unfold zeroIs; kernel_rfl
theorem sz80 : (Tryd.prog.info? 80).map (·.size) = some 1 := by kernel_rfl
theorem zr80 : zeroIs Tryd.prog 80 (.nilFunc) 1 := by unfold zeroIs; kernel_rfl
theorem sz81 : (Tryd.prog.info? 81).map (·.size) = some 1 := by kernel_rfl
theorem zr81 : zeroIs Tryd.prog 81 (.nilFunc) 1 := by unfold zeroIs; kernel_rfl
theorem sz82 : (Tryd.prog.info? 82).map (·.size) = some 1 := by kernel_rfl
theorem zr82 : zeroIs Tryd.prog 82 (.nilFunc) 1 := by unfold zeroIs; kernel_rfl
theorem sz83 : (Tryd.prog.info? 83).map (·.size) = some 1 := by kernel_rfl
theorem zr83 : zeroIs Tryd.prog 83 (.pointer none) 1 := by unfold zeroIs; kernel_rfl
theorem sz84 : (Tryd.prog.info? 84).map (·.size) = some 1 := by kernel_rfl
theorem zr84 : zeroIs Tryd.prog 84 (.int .u64 0) 1 := by unfold zeroIs; kernel_rfl
theorem sz85 : (Tryd.prog.info? 85).map (·.size) = some 1 := by kernel_rfl
theorem zr85 : zeroIs Tryd.prog 85 (.pointer none) 1 := by unfold zeroIs; kernel_rfl
theorem sz86 : (Tryd.prog.info? 86).map (·.size) = some 1 := by kernel_rfl
theorem zr86 : zeroIs Tryd.prog 86 (.pointer none) 1 := by unfold zeroIs; kernel_rfl
theorem sz87 : (Tryd.prog.info? 87).map (·.size) = some 1 := by kernel_rfl
theorem zr87 : zeroIs Tryd.prog 87 (.pointer none) 1 := by unfold zeroIs; kernel_rfl
theorem sz88 : (Tryd.prog.info? 88).map (·.size) = some 1 := by kernel_rfl
theorem zr88 : zeroIs Tryd.prog 88 (.nilFunc) 1 := by unfold zeroIs; kernel_rfl
theorem sz89 : (Tryd.prog.info? 89).map (·.size) = some 1 := by kernel_rfl
theorem zr89 : zeroIs Tryd.prog 89 (.nilFunc) 1 := by unfold zeroIs; kernel_rfl
theorem sz90 : (Tryd.prog.info? 90).map (·.size) = some 1 := by kernel_rfl
theorem zr90 : zeroIs Tryd.prog 90 (.nilFunc) 1 := by unfold zeroIs; kernel_rfl
theorem sz91 : (Tryd.prog.info? 91).map (·.size) = some 1 := by kernel_rfl
theorem zr91 : zeroIs Tryd.prog 91 (.nilFunc) 1 := by unfold zeroIs; kernel_rfl
theorem sz92 : (Tryd.prog.info? 92).map (·.size) = some 1 := by kernel_rfl
theorem zr92 : zeroIs Tryd.prog 92 (.nilFunc) 1 := by unfold zeroIs; kernel_rfl
theorem sz93 : (Tryd.prog.info? 93).map (·.size) = some 1 := by kernel_rfl
theorem zr93 : zeroIs Tryd.prog 93 (.pointer none) 1 := by unfold zeroIs; kernel_rfl
theorem sz94 : (Tryd.prog.info? 94).map (·.size) = some 1 := by kernel_rfl
theorem zr94 : zeroIs Tryd.prog 94 (.pointer none) 1 := by unfold zeroIs; kernel_rfl
theorem sz95 : (Tryd.prog.info? 95).map (·.size) = some 1 := by kernel_rfl
theorem zr95 : zeroIs Tryd.prog 95 (.nilFunc) 1 := by unfold zeroIs; kernel_rfl
theorem sz96 : (Tryd.prog.info? 96).map (·.size) = some 1 := by kernel_rfl
theorem zr96 : zeroIs Tryd.prog 96 (.nilFunc) 1 := by unfold zeroIs; kernel_rfl
theorem sz97 : (Tryd.prog.info? 97).map (·.size) = some 1 := by kernel_rfl
theorem zr97 : zeroIs Tryd.prog 97 (.nilFunc) 1 := by unfold zeroIs; kernel_rfl
theorem sz98 : (Tryd.prog.info? 98).map (·.size) = some 1 := by kernel_rfl
theorem zr98 : zeroIs Tryd.prog 98 (.nilFunc) 1 := by unfold zeroIs; kernel_rfl
theorem sz99 : (Tryd.prog.info? 99).map (·.size) = some 1 := by kernel_rfl
theorem zr99 : zeroIs Tryd.prog 99 (.int .u64 0) 1 := by unfold zeroIs; kernel_rfl
theorem sz100 : (Tryd.prog.info? 100).map (·.size) = some 1 := by kernel_rfl
theorem zr100 : zeroIs Tryd.prog 100 (.nilFunc) 1 := by unfold zeroIs; kernel_rfl
theorem sz101 : (Tryd.prog.info? 101).map (·.size) = some 1 := by kernel_rfl
theorem zr101 : zeroIs Tryd.prog 101 (.nilFunc) 1 := by unfold zeroIs; kernel_rfl
theorem sz102 : (Tryd.prog.info? 102).map (·.size) = some 1 := by kernel_rfl
theorem zr102 : zeroIs Tryd.prog 102 (.nilFunc) 1 := by unfold zeroIs; kernel_rfl
theorem sz103 : (Tryd.prog.info? 103).map (·.size) = some 1 := by kernel_rfl
theorem zr103 : zeroIs Tryd.prog 103 (.nilFunc) 1 := by unfold zeroIs; kernel_rfl
theorem sz104 : (Tryd.prog.info? 104).map (·.size) = some 1 := by kernel_rfl
theorem zr104 : zeroIs Tryd.prog 104 (.nilFunc) 1 := by unfold zeroIs; kernel_rfl
theorem sz105 : (Tryd.prog.info? 105).map (·.size) = some 64 := by kernel_rfl
theorem zr105 : zeroIs Tryd.prog 105 (.agg [.int .u8 0, .int .u8 0, .int .u8 0, .int .u8 0, .int .u8 0, .int .u8 0, .int .u8 0, .int .u8 0, .int .u8 0, .int .u8 0, .int .u8 0, .int .u8 0, .int .u8 0, .int .u8 0, .int .u8 0, .int .u8 0, .int .u8 0, .int .u8 0, .int .u8 0, .int .u8 0, .int .u8 0, .int .u8 0, .int .u8 0, .int .u8 0, .int .u8 0, .int .u8 0, .int .u8 0, .int .u8 0, .int .u8 0, .int .u8 0, .int .u8 0, .int .u8 0, .int .u8 0, .int .u8 0, .int .u8 0, .int .u8 0, .int .u8 0, .int .u8 0, .int .u8 0, .int .u8 0, .int .u8 0, .int .u8 0, .int .u8 0, .int .u8 0, .int .u8 0, .int .u8 0, .int .u8 0, .int .u8 0, .int .u8 0, .int .u8 0, .int .u8 0, .int .u8 0, .int .u8 0, .int .u8 0, .int .u8 0, .int .u8 0, .int .u8 0, .int .u8 0, .int .u8 0, .int .u8 0, .int .u8 0, .int .u8 0, .int .u8 0, .int .u8 0].toArray) 64 := by unfold zeroIs; kernel_rfl
theorem sz106 : (Tryd.prog.info? 106).map (·.size) = some 1 := by kernel_rfl
theorem zr106 : zeroIs Tryd.prog 106 (.nilFunc) 1 := by unfold zeroIs; kernel_rfl
theorem sz107 : (Tryd.prog.info? 107).map (·.size) = some 1 := by kernel_rfl
theorem zr107 : zeroIs Tryd.prog 107 (.nilFunc) 1 := by unfold zeroIs; kernel_rfl
theorem sz108 : (Tryd.prog.info? 108).map (·.size) = some 1 := by kernel_rfl
theorem zr108 : zeroIs Tryd.prog 108 (.nilFunc) 1 := by unfold zeroIs; kernel_rfl
theorem sz109 : (Tryd.prog.info? 109).map (·.size) = some 1 := by kernel_rfl
theorem zr109 : zeroIs Tryd.prog 109 (.nilFunc) 1 := by unfold zeroIs; kernel_rfl
theorem sz110 : (Tryd.prog.info? 110).map (·.size) = some 1 := by kernel_rfl
theorem zr110 : zeroIs Tryd.prog 110 (.nilFunc) 1 := by unfold zeroIs; kernel_rfl
theorem sz111 : (Tryd.prog.info? 111).map (·.size) = some 4 := by kernel_rfl
theorem zr111 : zeroIs Tryd.prog 111 (.agg [.pointer none, .pointer none, .pointer none, .string ByteArray.empty].toArray) 4 := by unfold zeroIs; kernel_rfl
theorem pl111 {fs : Array Field} (h : Tryd.prog.underlying 111 = some (.struct fs)) : placesOf Tryd.prog fs [(0, 1), (1, 1), (2, 1), (3, 1)] := by
  have h1 := Option.some.inj (Tryd.underlying111.symm.trans h)
  injection h1 with h1
  subst h1
  unfold placesOf
  intro w
  kernel_rfl
theorem sz112 : (Tryd.prog.info? 112).map (·.size) = some 4 := by kernel_rfl
theorem zr112 : zeroIs Tryd.prog 112 (.agg [.pointer none, .pointer none, .pointer none, .string ByteArray.empty].toArray) 4 := by unfold zeroIs; kernel_rfl
theorem pl112 {fs : Array Field} (h : Tryd.prog.underlying 112 = some (.struct fs)) : placesOf Tryd.prog fs [(0, 1), (1, 1), (2, 1), (3, 1)] := by
  have h1 := Option.some.inj (Tryd.underlying112.symm.trans h)
  injection h1 with h1
  subst h1
  unfold placesOf
  intro w
  kernel_rfl
theorem sz113 : (Tryd.prog.info? 113).map (·.size) = some 0 := by kernel_rfl
theorem zr113 : zeroIs Tryd.prog 113 (.agg [].toArray) 0 := by unfold zeroIs; kernel_rfl
theorem sz114 : (Tryd.prog.info? 114).map (·.size) = some 0 := by kernel_rfl
theorem zr114 : zeroIs Tryd.prog 114 (.agg [].toArray) 0 := by unfold zeroIs; kernel_rfl
theorem pl114 {fs : Array Field} (h : Tryd.prog.underlying 114 = some (.struct fs)) : placesOf Tryd.prog fs [(0, 0)] := by
  have h1 := Option.some.inj (Tryd.underlying114.symm.trans h)
  injection h1 with h1
  subst h1
  unfold placesOf
  intro w
  kernel_rfl
theorem sz115 : (Tryd.prog.info? 115).map (·.size) = some 0 := by kernel_rfl
theorem zr115 : zeroIs Tryd.prog 115 (.agg [].toArray) 0 := by unfold zeroIs; kernel_rfl
theorem pl115 {fs : Array Field} (h : Tryd.prog.underlying 115 = some (.struct fs)) : placesOf Tryd.prog fs [(0, 0)] := by
  have h1 := Option.some.inj (Tryd.underlying115.symm.trans h)
  injection h1 with h1
  subst h1
  unfold placesOf
  intro w
  kernel_rfl
theorem sz116 : (Tryd.prog.info? 116).map (·.size) = some 1 := by kernel_rfl
theorem zr116 : zeroIs Tryd.prog 116 (.int .u32 0) 1 := by unfold zeroIs; kernel_rfl
theorem sz117 : (Tryd.prog.info? 117).map (·.size) = some 1 := by kernel_rfl
theorem zr117 : zeroIs Tryd.prog 117 (.int .u8 0) 1 := by unfold zeroIs; kernel_rfl
theorem sz118 : (Tryd.prog.info? 118).map (·.size) = some 1 := by kernel_rfl
theorem zr118 : zeroIs Tryd.prog 118 (.int .u8 0) 1 := by unfold zeroIs; kernel_rfl
theorem sz119 : (Tryd.prog.info? 119).map (·.size) = some 1 := by kernel_rfl
theorem zr119 : zeroIs Tryd.prog 119 (.nilFunc) 1 := by unfold zeroIs; kernel_rfl
theorem sz120 : (Tryd.prog.info? 120).map (·.size) = some 1 := by kernel_rfl
theorem zr120 : zeroIs Tryd.prog 120 (.pointer none) 1 := by unfold zeroIs; kernel_rfl
theorem sz121 : (Tryd.prog.info? 121).map (·.size) = some 1 := by kernel_rfl
theorem zr121 : zeroIs Tryd.prog 121 (.int .i32 0) 1 := by unfold zeroIs; kernel_rfl
theorem sz122 : (Tryd.prog.info? 122).map (·.size) = some 1 := by kernel_rfl
theorem zr122 : zeroIs Tryd.prog 122 (.int .i32 0) 1 := by unfold zeroIs; kernel_rfl
theorem sz123 : (Tryd.prog.info? 123).map (·.size) = some 11 := by kernel_rfl
theorem zr123 : zeroIs Tryd.prog 123 (.agg [.int .u64 0, .int .u64 0, .int .u32 0, .int .u8 0, .int .u8 0, .int .u8 0, .int .u8 0, .nilFunc, .pointer none, .int .i32 0, .int .i32 0].toArray) 11 := by unfold zeroIs; kernel_rfl
theorem pl123 {fs : Array Field} (h : Tryd.prog.underlying 123 = some (.struct fs)) : placesOf Tryd.prog fs [(0, 1), (1, 1), (2, 1), (3, 1), (4, 1), (5, 1), (6, 1), (7, 1), (8, 1), (9, 1), (10, 1)] := by
  have h1 := Option.some.inj (Tryd.underlying123.symm.trans h)
  injection h1 with h1
  subst h1
  unfold placesOf
  intro w
  kernel_rfl
theorem sz124 : (Tryd.prog.info? 124).map (·.size) = some 11 := by kernel_rfl
theorem zr124 : zeroIs Tryd.prog 124 (.agg [.int .u64 0, .int .u64 0, .int .u32 0, .int .u8 0, .int .u8 0, .int .u8 0, .int .u8 0, .nilFunc, .pointer none, .int .i32 0, .int .i32 0].toArray) 11 := by unfold zeroIs; kernel_rfl
theorem pl124 {fs : Array Field} (h : Tryd.prog.underlying 124 = some (.struct fs)) : placesOf Tryd.prog fs [(0, 1), (1, 1), (2, 1), (3, 1), (4, 1), (5, 1), (6, 1), (7, 1), (8, 1), (9, 1), (10, 1)] := by
  have h1 := Option.some.inj (Tryd.underlying124.symm.trans h)
  injection h1 with h1
  subst h1
  unfold placesOf
  intro w
  kernel_rfl
theorem sz125 : (Tryd.prog.info? 125).map (·.size) = some 1 := by kernel_rfl
theorem zr125 : zeroIs Tryd.prog 125 (.nilFunc) 1 := by unfold zeroIs; kernel_rfl
theorem sz126 : (Tryd.prog.info? 126).map (·.size) = some 1 := by kernel_rfl
theorem zr126 : zeroIs Tryd.prog 126 (.nilFunc) 1 := by unfold zeroIs; kernel_rfl
theorem sz127 : (Tryd.prog.info? 127).map (·.size) = some 1 := by kernel_rfl
theorem zr127 : zeroIs Tryd.prog 127 (.nilFunc) 1 := by unfold zeroIs; kernel_rfl
theorem sz128 : (Tryd.prog.info? 128).map (·.size) = some 1 := by kernel_rfl
theorem zr128 : zeroIs Tryd.prog 128 (.nilFunc) 1 := by unfold zeroIs; kernel_rfl
theorem sz129 : (Tryd.prog.info? 129).map (·.size) = some 1 := by kernel_rfl
theorem zr129 : zeroIs Tryd.prog 129 (.nilFunc) 1 := by unfold zeroIs; kernel_rfl
theorem fnF2 : FnIs Tryd.prog 2 Tryd.f2 := ⟨Tryd.func2, by kernel_rfl, by kernel_rfl⟩
theorem fnF3 : FnIs Tryd.prog 3 Tryd.f3 := ⟨Tryd.func3, by kernel_rfl, by kernel_rfl⟩
theorem fnF4 : FnIs Tryd.prog 4 Tryd.f4 := ⟨Tryd.func4, by kernel_rfl, by kernel_rfl⟩
theorem fnF5 : FnIs Tryd.prog 5 Tryd.f5 := ⟨Tryd.func5, by kernel_rfl, by kernel_rfl⟩
theorem fnF6 : FnIs Tryd.prog 6 Tryd.f6 := ⟨Tryd.func6, by kernel_rfl, by kernel_rfl⟩
theorem fnF7 : FnIs Tryd.prog 7 Tryd.f7 := ⟨Tryd.func7, by kernel_rfl, by kernel_rfl⟩
theorem fnF8 : FnIs Tryd.prog 8 Tryd.f8 := ⟨Tryd.func8, by kernel_rfl, by kernel_rfl⟩
theorem fnF9 : FnIs Tryd.prog 9 Tryd.f9 := ⟨Tryd.func9, by kernel_rfl, by kernel_rfl⟩
theorem fnF10 : FnIs Tryd.prog 10 Tryd.f10 := ⟨Tryd.func10, by kernel_rfl, by kernel_rfl⟩
theorem fnF11 : FnIs Tryd.prog 11 Tryd.f11 := ⟨Tryd.func11, by kernel_rfl, by kernel_rfl⟩
theorem fnF12 : FnIs Tryd.prog 12 Tryd.f12 := ⟨Tryd.func12, by kernel_rfl, by kernel_rfl⟩
theorem fnF13 : FnIs Tryd.prog 13 Tryd.f13 := ⟨Tryd.func13, by kernel_rfl, by kernel_rfl⟩
theorem fnF14 : FnIs Tryd.prog 14 Tryd.f14 := ⟨Tryd.func14, by kernel_rfl, by kernel_rfl⟩
theorem fnF15 : FnIs Tryd.prog 15 Tryd.f15 := ⟨Tryd.func15, by kernel_rfl, by kernel_rfl⟩
theorem fnF16 : FnIs Tryd.prog 16 Tryd.f16 := ⟨Tryd.func16, by kernel_rfl, by kernel_rfl⟩
theorem fnF17 : FnIs Tryd.prog 17 Tryd.f17 := ⟨Tryd.func17, by kernel_rfl, by kernel_rfl⟩
theorem fnF18 : FnIs Tryd.prog 18 Tryd.f18 := ⟨Tryd.func18, by kernel_rfl, by kernel_rfl⟩
theorem fnF19 : FnIs Tryd.prog 19 Tryd.f19 := ⟨Tryd.func19, by kernel_rfl, by kernel_rfl⟩
theorem fnF20 : FnIs Tryd.prog 20 Tryd.f20 := ⟨Tryd.func20, by kernel_rfl, by kernel_rfl⟩
theorem fnF21 : FnIs Tryd.prog 21 Tryd.f21 := ⟨Tryd.func21, by kernel_rfl, by kernel_rfl⟩
theorem fnF22 : FnIs Tryd.prog 22 Tryd.f22 := ⟨Tryd.func22, by kernel_rfl, by kernel_rfl⟩
theorem fnF23 : FnIs Tryd.prog 23 Tryd.f23 := ⟨Tryd.func23, by kernel_rfl, by kernel_rfl⟩
theorem fnF24 : FnIs Tryd.prog 24 Tryd.f24 := ⟨Tryd.func24, by kernel_rfl, by kernel_rfl⟩
theorem fnF25 : FnIs Tryd.prog 25 Tryd.f25 := ⟨Tryd.func25, by kernel_rfl, by kernel_rfl⟩
theorem fnF26 : FnIs Tryd.prog 26 Tryd.f26 := ⟨Tryd.func26, by kernel_rfl, by kernel_rfl⟩
theorem fnF27 : FnIs Tryd.prog 27 Tryd.f27 := ⟨Tryd.func27, by kernel_rfl, by kernel_rfl⟩
theorem fnF28 : FnIs Tryd.prog 28 Tryd.f28 := ⟨Tryd.func28, by kernel_rfl, by kernel_rfl⟩
theorem fnF29 : FnIs Tryd.prog 29 Tryd.f29 := ⟨Tryd.func29, by kernel_rfl, by kernel_rfl⟩
theorem fnF30 : FnIs Tryd.prog 30 Tryd.f30 := ⟨Tryd.func30, by kernel_rfl, by kernel_rfl⟩
theorem fnF31 : FnIs Tryd.prog 31 Tryd.f31 := ⟨Tryd.func31, by kernel_rfl, by kernel_rfl⟩
theorem fnF32 : FnIs Tryd.prog 32 Tryd.f32 := ⟨Tryd.func32, by kernel_rfl, by kernel_rfl⟩
theorem fnF33 : FnIs Tryd.prog 33 Tryd.f33 := ⟨Tryd.func33, by kernel_rfl, by kernel_rfl⟩
theorem fnF34 : FnIs Tryd.prog 34 Tryd.f34 := ⟨Tryd.func34, by kernel_rfl, by kernel_rfl⟩
theorem fnF35 : FnIs Tryd.prog 35 Tryd.f35 := ⟨Tryd.func35, by kernel_rfl, by kernel_rfl⟩
theorem fnF36 : FnIs Tryd.prog 36 Tryd.f36 := ⟨Tryd.func36, by kernel_rfl, by kernel_rfl⟩
theorem fnF37 : FnIs Tryd.prog 37 Tryd.f37 := ⟨Tryd.func37, by kernel_rfl, by kernel_rfl⟩
theorem fnF38 : FnIs Tryd.prog 38 Tryd.f38 := ⟨Tryd.func38, by kernel_rfl, by kernel_rfl⟩
theorem fnF39 : FnIs Tryd.prog 39 Tryd.f39 := ⟨Tryd.func39, by kernel_rfl, by kernel_rfl⟩
theorem fnF40 : FnIs Tryd.prog 40 Tryd.f40 := ⟨Tryd.func40, by kernel_rfl, by kernel_rfl⟩
theorem fnF41 : FnIs Tryd.prog 41 Tryd.f41 := ⟨Tryd.func41, by kernel_rfl, by kernel_rfl⟩
theorem fnF42 : FnIs Tryd.prog 42 Tryd.f42 := ⟨Tryd.func42, by kernel_rfl, by kernel_rfl⟩
theorem fnF43 : FnIs Tryd.prog 43 Tryd.f43 := ⟨Tryd.func43, by kernel_rfl, by kernel_rfl⟩
theorem fnF44 : FnIs Tryd.prog 44 Tryd.f44 := ⟨Tryd.func44, by kernel_rfl, by kernel_rfl⟩
theorem fnF45 : FnIs Tryd.prog 45 Tryd.f45 := ⟨Tryd.func45, by kernel_rfl, by kernel_rfl⟩
theorem fnF46 : FnIs Tryd.prog 46 Tryd.f46 := ⟨Tryd.func46, by kernel_rfl, by kernel_rfl⟩
theorem fnF47 : FnIs Tryd.prog 47 Tryd.f47 := ⟨Tryd.func47, by kernel_rfl, by kernel_rfl⟩
theorem fnF48 : FnIs Tryd.prog 48 Tryd.f48 := ⟨Tryd.func48, by kernel_rfl, by kernel_rfl⟩
theorem fnF49 : FnIs Tryd.prog 49 Tryd.f49 := ⟨Tryd.func49, by kernel_rfl, by kernel_rfl⟩
theorem fnF50 : FnIs Tryd.prog 50 Tryd.f50 := ⟨Tryd.func50, by kernel_rfl, by kernel_rfl⟩
theorem fnF51 : FnIs Tryd.prog 51 Tryd.f51 := ⟨Tryd.func51, by kernel_rfl, by kernel_rfl⟩
theorem fnF53 : FnIs Tryd.prog 53 Tryd.f53 := ⟨Tryd.func53, by kernel_rfl, by kernel_rfl⟩
theorem fnF55 : FnIs Tryd.prog 55 Tryd.f55 := ⟨Tryd.func55, by kernel_rfl, by kernel_rfl⟩
theorem fnF57 : FnIs Tryd.prog 57 Tryd.f57 := ⟨Tryd.func57, by kernel_rfl, by kernel_rfl⟩
theorem fnF58 : FnIs Tryd.prog 58 Tryd.f58 := ⟨Tryd.func58, by kernel_rfl, by kernel_rfl⟩
theorem fnF59 : FnIs Tryd.prog 59 Tryd.f59 := ⟨Tryd.func59, by kernel_rfl, by kernel_rfl⟩
theorem fnF60 : FnIs Tryd.prog 60 Tryd.f60 := ⟨Tryd.func60, by kernel_rfl, by kernel_rfl⟩
theorem fnF61 : FnIs Tryd.prog 61 Tryd.f61 := ⟨Tryd.func61, by kernel_rfl, by kernel_rfl⟩
theorem fnF62 : FnIs Tryd.prog 62 Tryd.f62 := ⟨Tryd.func62, by kernel_rfl, by kernel_rfl⟩
theorem fnF63 : FnIs Tryd.prog 63 Tryd.f63 := ⟨Tryd.func63, by kernel_rfl, by kernel_rfl⟩
theorem fnF64 : FnIs Tryd.prog 64 Tryd.f64 := ⟨Tryd.func64, by kernel_rfl, by kernel_rfl⟩
theorem fnF94 : FnIs Tryd.prog 94 Tryd.f94 := ⟨Tryd.func94, by kernel_rfl, by kernel_rfl⟩
end Go.Proofs.YtompmejidaddoaaDoor
