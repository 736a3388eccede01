/- An entry's encoding: the plain words. -/
import Derived.Test.YtibmigeikkmofaaLe
namespace Go.Proofs.Ytibmigeikkmofaa
namespace Crc
/-- An entry's bytes without their sum. -/
def bodyB (kd bl ver : Nat) (D : List Nat) (time : Nat) : List Nat := leb 1 kd ++ leb 4 bl ++ leb 8 ver ++ D ++ leb 8 time
def sealB (l : List Nat) : List Nat := l ++ leb 8 (sumS l)
def encB (kd bl ver : Nat) (D : List Nat) (time : Nat) : List Nat := sealB (bodyB kd bl ver D time)
theorem bytes_app {a b : List Nat} (ha : Bytes a) (hb : Bytes b) : Bytes (a ++ b) := bytes_append ha hb
theorem bodyB_bytes {kd bl ver : Nat} {D : List Nat} {time : Nat} (hD : Bytes D) : Bytes (bodyB kd bl ver D time) :=
  bytes_app (bytes_app (bytes_app (bytes_app (leb_bytes _ _) (leb_bytes _ _)) (leb_bytes _ _)) hD) (leb_bytes _ _)
theorem bodyB_length {kd bl ver : Nat} {D : List Nat} {time : Nat} (hD : D.length = 8) : (bodyB kd bl ver D time).length = 29 := by
  simp [bodyB, leb_length, hD]
theorem sealB_bytes {l : List Nat} (h : Bytes l) : Bytes (sealB l) := bytes_app h (leb_bytes _ _)
theorem sealB_length (l : List Nat) : (sealB l).length = l.length + 8 := by simp [sealB, leb_length]
theorem encB_length {kd bl ver : Nat} {D : List Nat} {time : Nat} (hD : D.length = 8) : (encB kd bl ver D time).length = 37 := by
  rw [encB, sealB_length, bodyB_length hD]
end Crc
end Go.Proofs.Ytibmigeikkmofaa
