/-
  What the statement `a, e := disk.Do(to(s), ..)` leaves (for the laws of chapter 11).
-/
import Derived.Test.YteeoonoccklhmaaPlain
import Derived.Test.YteeoonoccklhmaaFewd
import Derived.Test.YteeoonoccklhmaaArgs
namespace Go.Proofs.Yteeoonoccklhmaa
open Go.RowKit

/-- The box b holds the disk; its parts do not hang on b. -/
def GotD (W : World) (o : Bool) (ct co cp l lt la e : Int) (n0 n m : Nat) (bs : List (List UInt8)) (cd ld : List UInt8) (s5 s6 : Value) (W' : World) : Prop :=
  ∃ b a k c d r q es, s5 = .pointer (some ⟨b, 0, none⟩) ∧ s6 = .int .i64 e ∧ W.heap.size ≤ b ∧ Bk W' b 39 (dkC (.slice a n0 k) o ct co cp (.slice c n d) l lt la (.slice r m q)) ∧ Dv (fun x => x = b) W' (.slice a n0 k) (.slice c n d) (.slice r m q) es bs cd ld ∧ Below W.heap.size W W'

section
variable {W w3 w4 : World} {o : Bool} {ct co cp l lt la e : Int} {n0 n m : Nat} {bs : List (List UInt8)} {cd ld : List UInt8} {a c r : Option Addr} {k d q : Nat} {es : List Tr} {X : Nat → Prop} {B : Nat}
/-- The box is made behind the call. -/
theorem GotD.new (hlow : Below W.heap.size W w4) (hd : Dw B X w4 (.slice a n0 k) (.slice c n d) (.slice r m q) es bs cd ld) :
    GotD W o ct co cp l lt la e n0 n m bs cd ld (.pointer (some ⟨w4.heap.size, 0, none⟩)) (.int .i64 e) (w4.alloc (.cells #[.slice a n0 k, .bool o, .int .i64 ct, .int .i64 co, .int .i64 cp, .slice c n d, .int .i64 l, .int .i64 lt, .int .i64 la, .slice r m q] 39 (0, 0))) :=
  ⟨_, a, k, c, d, r, q, es, rfl, rfl, hlow.size, Bk.new w4 _ (dkC _ _ _ _ _ _ _ _ _ _), (Dv.start (X := fun x => x = w4.heap.size) hd.de (fun _ h => Nat.le_of_eq h.symm)).below (low_alloc _ _), hlow.alloc hlow.size _⟩
/-- The box was there before the call; the call's own rows lie behind it, and its X has the box. -/
theorem GotD.old {b : Nat} (hlow : Below W.heap.size W w4) (hd : Dw B (fun x => x = b) w4 (.slice a n0 k) (.slice c n d) (.slice r m q) es bs cd ld) (hb : b < B) (hW : W.heap.size ≤ b) (hk : Bk w4 b 39 (dkC (.slice none 0 0) false 0 0 0 (.slice none 0 0) 0 0 0 (.slice none 0 0))) :
    GotD W o ct co cp l lt la e n0 n m bs cd ld (.pointer (some ⟨b, 0, none⟩)) (.int .i64 e) ((((((((((w4.setCell ⟨b, 0, none⟩ (.slice a n0 k)).setCell ⟨b, 1, none⟩ (.bool o)).setCell ⟨b, 2, none⟩ (.int .i64 ct)).setCell ⟨b, 3, none⟩ (.int .i64 co)).setCell ⟨b, 4, none⟩ (.int .i64 cp)).setCell ⟨b, 5, none⟩ (.slice c n d)).setCell ⟨b, 6, none⟩ (.int .i64 l)).setCell ⟨b, 7, none⟩ (.int .i64 lt)).setCell ⟨b, 8, none⟩ (.int .i64 la)).setCell ⟨b, 9, none⟩ (.slice r m q)) :=
  ⟨b, a, k, c, d, r, q, es, rfl, rfl, hW, hk.set10 (.slice a n0 k) (.bool o) (.int .i64 ct) (.int .i64 co) (.int .i64 cp) (.slice c n d) (.int .i64 l) (.int .i64 lt) (.int .i64 la) (.slice r m q), ((hd.box (fun _ h => h ▸ hb) rfl (.slice a n0 k) (.bool o) (.int .i64 ct) (.int .i64 co) (.int .i64 cp) (.slice c n d) (.int .i64 l) (.int .i64 lt) (.int .i64 la) (.slice r m q)).dv (fun _ h => h ▸ hb)), set10 hlow hW (.slice a n0 k) (.bool o) (.int .i64 ct) (.int .i64 co) (.int .i64 cp) (.slice c n d) (.int .i64 l) (.int .i64 lt) (.int .i64 la) (.slice r m q)⟩
end
end Go.Proofs.Yteeoonoccklhmaa
