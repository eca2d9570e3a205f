/-
  The pure layer: more rules of a walk: memory of more objects.
-/
import Derived.Test.YtdemgegpnlngeaaDoorPure21
namespace PG
open Go
set_option linter.unusedSimpArgs false
theorem mem_get4 (o : Option MObj) (μ : Mem) : Mem.get (o :: μ) 4 = Mem.get μ 3 := by simp [Mem.get]
theorem mem_get5 (o : Option MObj) (μ : Mem) : Mem.get (o :: μ) 5 = Mem.get μ 4 := by simp [Mem.get]
theorem mem_get6 (o : Option MObj) (μ : Mem) : Mem.get (o :: μ) 6 = Mem.get μ 5 := by simp [Mem.get]
theorem mem_get7 (o : Option MObj) (μ : Mem) : Mem.get (o :: μ) 7 = Mem.get μ 6 := by simp [Mem.get]
theorem mem_get8 (o : Option MObj) (μ : Mem) : Mem.get (o :: μ) 8 = Mem.get μ 7 := by simp [Mem.get]
theorem mem_get9 (o : Option MObj) (μ : Mem) : Mem.get (o :: μ) 9 = Mem.get μ 8 := by simp [Mem.get]
theorem mem_get10 (o : Option MObj) (μ : Mem) : Mem.get (o :: μ) 10 = Mem.get μ 9 := by simp [Mem.get]
theorem mem_get11 (o : Option MObj) (μ : Mem) : Mem.get (o :: μ) 11 = Mem.get μ 10 := by simp [Mem.get]
theorem mem_set3 (a b c o x : Option MObj) (μ : List (Option MObj)) : (a :: b :: c :: o :: μ).set 3 x = a :: b :: c :: x :: μ := rfl
theorem mem_set4 (a b c d o x : Option MObj) (μ : List (Option MObj)) : (a :: b :: c :: d :: o :: μ).set 4 x = a :: b :: c :: d :: x :: μ := rfl
theorem mem_set5 (a b c d e o x : Option MObj) (μ : List (Option MObj)) : (a :: b :: c :: d :: e :: o :: μ).set 5 x = a :: b :: c :: d :: e :: x :: μ := rfl
theorem mem_set6 (a b c d e f o x : Option MObj) (μ : List (Option MObj)) : (a :: b :: c :: d :: e :: f :: o :: μ).set 6 x = a :: b :: c :: d :: e :: f :: x :: μ := rfl
theorem mem_set7 (a b c d e f g o x : Option MObj) (μ : List (Option MObj)) : (a :: b :: c :: d :: e :: f :: g :: o :: μ).set 7 x = a :: b :: c :: d :: e :: f :: g :: x :: μ := rfl
theorem mem_set8 (a b c d e f g h o x : Option MObj) (μ : List (Option MObj)) : (a :: b :: c :: d :: e :: f :: g :: h :: o :: μ).set 8 x = a :: b :: c :: d :: e :: f :: g :: h :: x :: μ := rfl
theorem mem_set9 (a b c d e f g h i o x : Option MObj) (μ : List (Option MObj)) : (a :: b :: c :: d :: e :: f :: g :: h :: i :: o :: μ).set 9 x = a :: b :: c :: d :: e :: f :: g :: h :: i :: x :: μ := rfl
theorem mem_set10 (a b c d e f g h i j o x : Option MObj) (μ : List (Option MObj)) : (a :: b :: c :: d :: e :: f :: g :: h :: i :: j :: o :: μ).set 10 x = a :: b :: c :: d :: e :: f :: g :: h :: i :: j :: x :: μ := rfl
theorem mem_set11 (a b c d e f g h i j k o x : Option MObj) (μ : List (Option MObj)) : (a :: b :: c :: d :: e :: f :: g :: h :: i :: j :: k :: o :: μ).set 11 x = a :: b :: c :: d :: e :: f :: g :: h :: i :: j :: k :: x :: μ := rfl
theorem SS4 : type_of% (And.intro (And.intro (And.intro (And.intro (@mem_get4) (@mem_get5)) (And.intro (@mem_get6) (@mem_get7))) (And.intro (And.intro (@mem_get8) (@mem_get9)) (And.intro (@mem_get10) (@mem_get11)))) (And.intro (And.intro (And.intro (@mem_set3) (@mem_set4)) (And.intro (@mem_set5) (@mem_set6))) (And.intro (And.intro (@mem_set7) (@mem_set8)) (And.intro (@mem_set9) (And.intro (@mem_set10) (@mem_set11)))))) :=
  (And.intro (And.intro (And.intro (And.intro (@mem_get4) (@mem_get5)) (And.intro (@mem_get6) (@mem_get7))) (And.intro (And.intro (@mem_get8) (@mem_get9)) (And.intro (@mem_get10) (@mem_get11)))) (And.intro (And.intro (And.intro (@mem_set3) (@mem_set4)) (And.intro (@mem_set5) (@mem_set6))) (And.intro (And.intro (@mem_set7) (@mem_set8)) (And.intro (@mem_set9) (And.intro (@mem_set10) (@mem_set11))))))
end PG
