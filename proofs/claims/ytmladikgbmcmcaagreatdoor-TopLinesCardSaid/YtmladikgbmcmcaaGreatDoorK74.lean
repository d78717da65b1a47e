/- a part of the proof of TopLines. -/
import Derived.Test.YtmladikgbmcmcaaGreatDoorRows
import Derived.Test.YtmladikgbmcmcaaGreatDoorK75
import Derived.Lib.LaidU8
import Derived.LaidSub
import Derived.LaidHandle
import Derived.Stop.LaidErr
import Derived.Shelf.Vars
set_option linter.all false
namespace Go.Proofs.YtmladikgbmcmcaaGreatDoor
open Go.RowKit Go.Lib
abbrev lR:List (String×DataW Unit):=Rows.topErrorsRow.laid
theorem gErrTy : Tryz.prog.globalNamed "errors.errorType" = some 4 := by kernel_rfl
theorem rtTy : (Tryz.prog.cutTypes.find? (·.1 == "internal/reflectlite.rtype")).map (·.2) = some 348 := by kernel_rfl
theorem oneErr:((List.range Tryz.prog.types.size).filter fun t=>Tryz.prog.rowNamed t [101,114,114,111,114])=[124]:=by kernel_rfl
theorem handle_of_laid{W:World}(h:laidMetH Tryz.prog lR W):ErrT W:=by
 obtain⟨_,h2⟩:=laidMetH_iff.1 h
 have hm : (("errors.errorType", Rows.laid_errors_errorType) : String × DataW Unit) ∈ lR.filter fun x => x.2.handleName?.isSome := List.mem_filter.2 ⟨List.mem_of_getElem? (i := 5) rfl, rfl⟩
 obtain⟨name,u,ty,e1,e2,e3,e4,e5⟩:=h2 _ hm
 have en:name=[101,114,114,111,114]:=(Option.some.inj e1).symm
 subst en
 obtain rfl:=Option.some.inj (rtTy.symm.trans e2)
 have hm:ty∈(List.range Tryz.prog.types.size).filter fun t=>Tryz.prog.rowNamed t [101,114,114,111,114]:=List.mem_filter.2 ⟨List.mem_range.2 e3,e4⟩
 rw[oneErr] at hm
 obtain rfl:=List.mem_singleton.1 hm
 have hh:typeHandle Tryz.prog 124=.pointer (some ⟨18,124,none⟩):=by kernel_rfl
 rw[hh] at e5
 unfold ErrT
 simpa using World.var?_cell gErrTy e5 0
theorem cellsES:Tryz.prog.cellsOf 580=1:=by kernel_rfl
theorem cellsStr:Tryz.prog.cellsOf 9=1:=by kernel_rfl
theorem starES : "*" ++ "errors.errorString" = "*errors.errorString" := by decide
theorem rowES (u : TypeId) (h : Tryz.prog.typeName? 3 u = some "*errors.errorString") : u = 578 :=
 typeName_ptr_named (nm := "errors.errorString") (by rw [starES]; kernel_rfl) (by kernel_rfl) (by decide) u (by rw [starES]; exact h)
theorem sent_of_laid {W : World} (h : laidMetH Tryz.prog lR W) {n : String} {g : Nat} {text : List UInt8} (hf : lR.filter (fun x => x.1 == n) = [(n, .iface "*errors.errorString" (.ptr (.agg [.lit (.string text)])))])
  (hg:Tryz.prog.globalNamed n=some g) (ht:(Tryz.prog.globals[g]?).map (·.type)=some 124):∃ a:Addr,W.cell? ⟨g,0,none⟩=some (.iface 578 (.pointer (some a))):=by
 have h1:=(laidMetH_iff.1 (h.filter (fun x=>x.1==n))).1
 rw[hf] at h1
 have h1 : laidMet Tryz.prog [(n, .iface "*errors.errorString" (.ptr (.agg [.lit (.string text)])))] W := h1
 obtain⟨a,s,hv,_⟩:=laid_sentinel h1 hg ht Tryz.underlying124 rowES Tryz.underlying578 Tryz.underlying580 rfl rfl Tryz.underlying9 cellsES cellsStr
 exact⟨a,by simpa using World.var?_cell hg hv 0⟩
theorem gFirst : Tryz.prog.globalNamed "unicode/utf8.first" = some 9 := by kernel_rfl
theorem gAccept : Tryz.prog.globalNamed "unicode/utf8.acceptRanges" = some 10 := by kernel_rfl
theorem tFirst:(Tryz.prog.globals[9]?).map (·.type)=some 336:=by kernel_rfl
theorem tAccept:(Tryz.prog.globals[10]?).map (·.type)=some 339:=by kernel_rfl
theorem cU8:Tryz.prog.cellsOf 5=1:=by kernel_rfl
theorem cFirst:Tryz.prog.cellsOf 336=256:=by kernel_rfl
theorem cRange:Tryz.prog.cellsOf 338=2:=by kernel_rfl
theorem firstD:Rows.laid_unicode_utf8_first=firstData:=by kernel_rfl
theorem acceptD:(Rows.laid_unicode_utf8_acceptRanges:DataW Unit)=acceptData:=by kernel_rfl
theorem tabs_of_laid{W:World}(h:laidMetH Tryz.prog lR W):Utf8Tabs 9 10 W:=by
 obtain⟨h1,_⟩:=laidMetH_iff.1 h
 have m3 : (("unicode/utf8.first", Rows.laid_unicode_utf8_first) : String × DataW Unit) ∈ lR.filter fun x => x.2.handleName?.isNone := List.mem_filter.2 ⟨List.mem_of_getElem? (i := 2) rfl, by kernel_rfl⟩
 have m4 : (("unicode/utf8.acceptRanges", Rows.laid_unicode_utf8_acceptRanges) : String × DataW Unit) ∈ lR.filter fun x => x.2.handleName?.isNone := List.mem_filter.2 ⟨List.mem_of_getElem? (i := 3) rfl, by kernel_rfl⟩
 have h3:=laidMet.reads h1 m3
 have h4:=laidMet.reads h1 m4
 rw[firstD] at h3
 rw[acceptD] at h4
 refine⟨fun c hc=>?_,fun i hi=>?_⟩
 ·obtain⟨g,t,cs,fuel,p,hg,hty,hvar,hd⟩:=h3
  obtain rfl:=Option.some.inj (gFirst.symm.trans hg)
  obtain rfl:=Option.some.inj (tFirst.symm.trans hty)
  have hcs:=cells_of_tab Tryz.underlying336 Tryz.underlying5 cU8 cFirst hd
  have:=World.var?_cell hg hvar c
  rw[this,<-Array.getElem?_toList,hcs]
  simp[firstTab,hc]
 ·obtain⟨g,t,cs,fuel,p,hg,hty,hvar,hd⟩:=h4
  obtain rfl:=Option.some.inj (gAccept.symm.trans hg)
  obtain rfl:=Option.some.inj (tAccept.symm.trans hty)
  obtain⟨fuel',d,q,hdi,he⟩:=array_elem Tryz.underlying339 hd i hi
  simp only[List.getElem?_map,List.getElem?_range hi,Option.map_some,Option.some.injEq] at hdi
  subst hdi
  rw[cRange] at he
  have hcs:=ints_of_struct Tryz.underlying338 (fun j f hj=>by
   match j,hj with
   |0,hj=>simp at hj;subst hj;exact⟨Tryz.underlying5,rfl,cU8⟩
   |1,hj=>simp at hj;subst hj;exact⟨Tryz.underlying5,rfl,cU8⟩
   |j+2,hj=>simp at hj) (by rw[cRange];rfl) he
  have e0:=congrArg (·[0]?) hcs
  have e1:=congrArg (·[1]?) hcs
  simp only[List.getElem?_take,List.getElem?_drop] at e0 e1
  constructor
  ·rw[World.var?_cell hg hvar (2*i),<-Array.getElem?_toList]
   simpa[Nat.mul_comm] using e0
  ·rw[World.var?_cell hg hvar (2*i+1),<-Array.getElem?_toList]
   simpa[Nat.mul_comm] using e1
theorem envA_of_laid{W:World}(h:laidMetH Tryz.prog lR W)(hs:W.ShapedOpen Tryz.prog):EnvA W:=by
 have hz:19<=W.heap.size:=by
  obtain⟨o,o0,h1,_⟩:=hs.2 18 (show Tryz.prog.globals.size<=18 from of_decide_eq_true (by kernel_rfl)) (of_decide_eq_true (by kernel_rfl))
  have:=(Array.getElem?_eq_some_iff.1 h1).1
  omega
 obtain ⟨a1, e1⟩ := sent_of_laid h (n := "diaeresis/eval.errNone") (text := [110, 111, 32, 118, 97, 108, 117, 101]) (g := 7) (by kernel_rfl) (by kernel_rfl) (by kernel_rfl)
 obtain ⟨a2, e2⟩ := sent_of_laid h (n := "diaeresis/number.errOver") (text := [116, 111, 111, 32, 103, 114, 101, 97, 116]) (g := 14) (by kernel_rfl) (by kernel_rfl) (by kernel_rfl)
 obtain ⟨a3, e3⟩ := sent_of_laid h (n := "diaeresis/number.errDivide") (text := [110, 111, 32, 113, 117, 111, 116, 105, 101, 110, 116]) (g := 15) (by kernel_rfl) (by kernel_rfl) (by kernel_rfl)
 exact⟨⟨tabs_of_laid h,Go.Proofs.cell_of_shapedOpen_int (zero:=#[.int .i64 0]) (t:=3) hs (of_decide_eq_true (by kernel_rfl)) (by kernel_rfl) rfl (by kernel_rfl) (by kernel_rfl) Tryz.underlying3⟩,
  ⟨handle_of_laid h, sent_of_laid h (n := "diaeresis/group.errGroup") (text := [110, 111, 32, 109, 97, 116, 99, 104]) (by kernel_rfl) (by kernel_rfl) (by kernel_rfl), sent_of_laid h (n := "diaeresis/parse.errSyntax") (text := [110, 111, 32, 115, 121, 110, 116, 97, 120]) (by kernel_rfl) (by kernel_rfl) (by kernel_rfl), sent_of_laid h (n := "diaeresis/node.errNode") (text := [110, 111, 32, 116, 114, 101, 101]) (by kernel_rfl) (by kernel_rfl) (by kernel_rfl), by omega⟩,
  ⟨_,_,e1⟩,⟨_,_,e2⟩,⟨_,_,e3⟩,hz⟩
end Go.Proofs.YtmladikgbmcmcaaGreatDoor
