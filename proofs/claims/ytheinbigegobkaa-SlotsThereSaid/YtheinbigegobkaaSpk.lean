/- Layer 16: the document's example, in plain words. -/
import Derived.Test.YtheinbigegobkaaUnL
namespace Go.Proofs.Ytheinbigegobkaa

def spkT : ByteArray := ⟨#[97, 98, 99, 100, 101, 102, 103, 104, 105, 106, 107, 108, 109, 110, 111, 112]⟩
def spk : List GKV := [⟨0, ⟨2, 258, ⟨#[]⟩, [], []⟩⟩, ⟨1, ⟨4, 0, spkT, [], []⟩⟩, ⟨2, ⟨1, 1, ⟨#[]⟩, [], []⟩⟩]
def spkS : List UInt8 := [0, 1, 2, 0, 0, 0, 0, 0, 0, 1, 2, 0, 0, 0, 0, 0, 0, 3, 1, 1, 0, 0, 0, 0, 0, 0, 0, 0, 0, 0, 0, 0]
def spkO : List UInt8 := [0, 2, 0, 19, 4, 0, 16, 97, 98, 99, 100, 101, 102, 103, 104, 105, 106, 107, 108, 109, 110, 111, 112]
theorem spk_pack : packP spk 4 = (spkS, spkO, 0) := by decide +kernel
theorem spk_unpack : unpackP spkS spkO = (spk, 0) := by kernel_rfl
theorem spk_need : needP ⟨4, 0, spkT, [], []⟩ = 3 := by decide +kernel
end Go.Proofs.Ytheinbigegobkaa
