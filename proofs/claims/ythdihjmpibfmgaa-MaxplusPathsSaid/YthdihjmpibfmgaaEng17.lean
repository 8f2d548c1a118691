/- The engine, part 17: more words for data; how a text is told. -/
import Derived.Test.YthdihjmpibfmgaaEng16
import Derived.KernelRfl
namespace Go.Eng

namespace D
abbrev add (x y : Int) : Int := x + y
abbrev sub (x y : Int) : Int := x - y
abbrev mul (x y : Int) : Int := x * y
abbrev quo (x y : Int) : Int := x.tdiv y
abbrev rem (x y : Int) : Int := x.tmod y
abbrev neg (x : Int) : Int := -x
abbrev ine (x y : Int) : Prop := x ≠ y
abbrev ile (x y : Int) : Prop := x ≤ y
abbrev ilt (x y : Int) : Prop := x < y
abbrev nle (x y : Nat) : Prop := x ≤ y
abbrev nlt (x y : Nat) : Prop := x < y
abbrev nadd (x y : Nat) : Nat := x + y
abbrev nmul (x y : Nat) : Nat := x * y
abbrev ofN (x : Nat) : Int := (x : Int)
abbrev len {α : Type} (xs : List α) : Nat := xs.length
abbrev ilen {α : Type} (xs : List α) : Int := (xs.length : Int)
abbrev slen (s : ByteArray) : Int := (s.size : Int)
abbrev strFits (x y : ByteArray) : Prop := ((x.size + y.size : Nat) : Int) ≤ 9223372036854775807
abbrev sApp (x y : ByteArray) : ByteArray := x ++ y
abbrev not (x : Bool) : Bool := !x
abbrev and (x y : Bool) : Bool := x && y
abbrev or (x y : Bool) : Bool := x || y
abbrev nil (α : Type) : List α := []
abbrev cnd {α : Type} (c : Bool) (x y : α) : α := bif c then x else y
end D

/-- A state with some slots told. -/
def put (s : St) (l : List (Tmp × AV)) : St := { s with tm := l.foldl (fun tm p => tm.set p.1 p.2) s.tm }

/-- A state with a block of the memory told. -/
def putM (s : St) (nm : Nat) (b : Blk) : St := { s with mem := memSet s.mem nm b }

def noAnn : Ann := ⟨fun _ _ => none, fun _ _ => none, fun _ _ => none⟩

theorem of_eq {p q : Prop} (h : q = p) (hp : p) : q := h ▸ hp

end Go.Eng
