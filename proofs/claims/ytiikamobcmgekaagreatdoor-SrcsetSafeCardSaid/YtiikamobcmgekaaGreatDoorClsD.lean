/- Small laws on texts that are cut: what the lexer's texts do not hold. -/
import Derived.Shelf.Abstract
import Derived.Lib.Strings
import Derived.Test.YtiikamobcmgekaaGreatDoorLA
namespace Go.Proofs.YtiikamobcmgekaaGreatDoor
open Go.RowKit Go.Shelf
theorem extract_dropS (s:ByteArray) (k:Nat):(s.extract k s.size).data.toList=s.data.toList.drop k:=by
 rw[ByteArray.data_extract,Array.toList_extract,List.extract_eq_take_drop,List.take_of_length_le]
 rw[List.length_drop,len_data];omega
theorem str_drop (s:ByteArray) (k:Nat):s.extract k s.size=⟨(s.data.toList.drop k).toArray⟩:=by
 rw[<-extract_dropS]
theorem str_takeS (s:ByteArray) (n:Nat):s.extract 0 n=⟨(s.data.toList.take n).toArray⟩:=by
 have:(s.extract 0 n).data.toList=s.data.toList.take n:=by
  rw[ByteArray.data_extract,Array.toList_extract,List.extract_eq_take_drop];simp
 rw[<-this]
theorem str_cut (s:ByteArray) (f m:Nat):s.extract f m=⟨((s.data.toList.take m).drop f).toArray⟩:=by
 have:(s.extract f m).data.toList=(s.data.toList.take m).drop f:=by
  rw[ByteArray.data_extract,Array.toList_extract,List.extract_eq_take_drop,List.drop_take]
 rw[<-this]
theorem drop_tw (p:UInt8->Bool) (l:Bs):l.drop (tw p l)=l.dropWhile p:=by
 have h:=List.drop_left (l₁:=l.takeWhile p) (l₂:=l.dropWhile p)
 rwa[List.takeWhile_append_dropWhile]at h
theorem take_twS (p:UInt8->Bool) (l:Bs):l.take (tw p l)=l.takeWhile p:=by
 have h:=List.take_left (l₁:=l.takeWhile p) (l₂:=l.dropWhile p)
 rwa[List.takeWhile_append_dropWhile]at h
end Go.Proofs.YtiikamobcmgekaaGreatDoor

