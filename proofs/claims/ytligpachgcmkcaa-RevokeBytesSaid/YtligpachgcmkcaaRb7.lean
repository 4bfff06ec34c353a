/- The statement RevokeBytes: its walk, for any arguments. -/
import Derived.Test.YtligpachgcmkcaaRb6
import Derived.Test.YtligpachgcmkcaaL08x
set_option linter.unusedSimpArgs false
set_option linter.unusedVariables false
namespace Go.Proofs.Ytligpachgcmkcaa
open Go.RowKit Go.Shelf
def byKs : List TK := [.int .u8]
theorem by_dec : ∀ cs, allW byKs cs → ∃ x : Int, u8V x = cs := by
  rintro cs h
  simp only [byKs] at h
  match cs, h with
  | [.int k1 a], h =>
    obtain ⟨⟨rfl, _⟩, _⟩ := h
    exact ⟨a, rfl⟩
theorem byt_of {xs : List Int} (h : ∀ x ∈ xs, allW byKs (u8V x)) : Byt xs := by
  intro x hx
  obtain ⟨⟨_, h2⟩, _⟩ := h x hx
  have e0 : IntKind.u8.min = 0 := rfl
  have e1 : IntKind.u8.max = 255 := rfl
  omega
theorem DOp.dl' {w : World} {cs : List Value} (h : DOp w cs) : ∃ d : Dl, cs = dlV d ∧ d.length = 4 ∧ (∀ x ∈ d, RdSl w x.2.p iV x.2.xs) ∧ ∀ x ∈ d, x.2.xs.length ≤ x.2.cap := by
  obtain ⟨f0, f1, f2, f3, l0, l1, l2, l3, rfl, h⟩ := h
  refine ⟨[(f0, l0), (f1, l1), (f2, l2), (f3, l3)], rfl, rfl, fun x hx => (h x.2 ?_).1, fun x hx => (h x.2 ?_).2⟩
  · simpa using List.mem_map.2 ⟨x, hx, rfl⟩
  · simpa using List.mem_map.2 ⟨x, hx, rfl⟩
theorem rbytes_all (cs : List Value) (p : Option Addr) (cap : Nat) (bs : List Int) (w : World) (h : DOp w cs) (hp : RdSl w p u8V bs) (hc : bs.length ≤ cap) (hb : ∀ x ∈ bs, allW byKs (u8V x)) : CallW Try.prog 5 [.agg ⟨cs⟩, .slice p bs.length cap] w fun v _ => v = .bool true := by
  obtain ⟨d, rfl, hd, hr, hdc⟩ := h.dl'
  exact rbytes_ok d hd hdc p cap bs (byt_of hb) hc w hr hp
end Go.Proofs.Ytligpachgcmkcaa
