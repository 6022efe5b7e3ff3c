/-
  The calls of the examples of the service of keys, by the contracts of the functions called. KeyserviceCurrent: the law's function returns true at any log and name, if the examples hold. The examples of the service of keys hold in every world. KeyserviceAccept: the law's function returns true at any reader and answer.
-/
import Derived.Test.YtjokjgoppbmaiaaGreatDoorEh
import Derived.Test.YtjokjgoppbmaiaaGreatDoorDf
import Derived.Test.YtjokjgoppbmaiaaGreatDoorEc
import Derived.Test.YtjokjgoppbmaiaaGreatDoorGj
namespace Go.Vm.Seat
open Go.Proofs
set_option maxRecDepth 100000
theorem okt {t:Tm} (h:(okTm t && Nat.ble t.size 20000)=true):t.Ok∧t.size≤20000:=by
 simp only [Bool.and_eq_true] at h
 exact ⟨okTm_ok t h.1,Nat.le_of_ble_eq_true h.2⟩
abbrev okt? (t:Tm):Bool:=okTm t && Nat.ble t.size 20000
abbrev FactP:={x:Fact // FactOk E0 Tryz.prog x}
def fValid (t:Tm) (e:Int) (h1:okt? t=true) (h2:t.valid=e):FactP:=⟨⟨48,[.agg t.cells],.int .i64 e⟩,fun H=>by
 have:=okt h1
 rw [← h2];exact c48 this.1 (by omega) H⟩
def fCompare (t u:Tm) (e:Int) (h1:(okt? t && okt? u)=true) (h2:t.cmp u=e):FactP:=⟨⟨87,[.agg t.cells,.agg u.cells],.int .i64 e⟩,fun H=>by
 rw [Bool.and_eq_true] at h1
 have a:=okt h1.1
 have b:=okt h1.2
 rw [← h2];exact toE0 (d87 a.1 b.1 (by omega) (by omega) H)⟩
def fSame (t u:Tm) (e:Bool) (h1:(okt? t && okt? u)=true) (h2:decide (t.cmp u=0)=e):FactP:=⟨⟨15,[.agg t.cells,.agg u.cells],.bool e⟩,fun H=>by
 rw [Bool.and_eq_true] at h1
 have a:=okt h1.1
 have b:=okt h1.2
 rw [← h2];exact c15 a.1 b.1 (by omega) (by omega) H⟩
def fCopyL (t u:Tm) (h1:okt? t=true) (h2:eqPL t.cl.cells u.cells=true):FactP:=⟨⟨128,[.agg t.cells],.agg u.cells⟩,fun H=>by
 have:=okt h1
 rw [← eqPL_ok _ _ h2];exact c128 this.1 (by omega) H⟩
def fCopyK (t u:Tm) (h1:okt? t=true) (h2:eqPL t.cl.cells u.cells=true):FactP:=⟨⟨60,[.agg t.cells],.agg u.cells⟩,fun H=>by
 have:=okt h1
 rw [← eqPL_ok _ _ h2];exact c60 this.1 (by omega) H⟩
def fFmt (n:Int) (s:List UInt8) (h1:0≤n∧n≤9999) (h2:Lib.itoa n=s):FactP:=⟨⟨247,[.int .i64 n,.int .i64 10],.str s⟩,fun H=>by
 rw [← h2];exact c247 h1.1 h1.2 H⟩
def okc? (x:Cred):Bool:=Nat.ble x.sub.length 1000 && (okt? x.key && (x.per.isEmpty && x.exc.isEmpty))
structure OkC (x:Cred):Prop where
 h1:x.sub.length≤1000
 hk:x.key.Ok
 hks:x.key.size≤20000
 hp:x.per= []
 he:x.exc= []
theorem okc {x:Cred} (h:okc? x=true):OkC x:=by
 simp only [okc?,Bool.and_eq_true,List.isEmpty_iff] at h
 have:=okt (t:=x.key) (by simp only [Bool.and_eq_true];exact h.2.1)
 exact ⟨Nat.le_of_ble_eq_true h.1,this.1,this.2,h.2.2.1,h.2.2.2⟩
def fCValid (x:Cred) (e:Int) (h1:okc? x=true) (h2:x.valid=e):FactP:=⟨⟨45,[.agg x.cells],.int .i64 e⟩,fun H=>by
 have a:=okc h1
 have:=a.hks
 have:=a.h1
 rw [← h2];exact c45 x (by omega) a.hk (by omega) (by simp [a.hp]) (by simp [a.he]) (by simp [a.hp]) (by simp [a.he]) H⟩
def fIssue (x:Cred) (key:Tm) (t:Tm) (e:Int) (h1:(okc? x && okt? key)=true) (h2:(eqPL (x.issue key).1.cells t.cells && decide ((x.issue key).2=e))=true):FactP:=⟨⟨19,[.agg x.cells,.agg key.cells],.tup [.agg t.cells,.int .i64 e]⟩,fun H=>by
 rw [Bool.and_eq_true] at h1
 have a:=okc h1.1
 have b:=okt h1.2
 have:=a.hks
 have:=a.h1
 rw [Bool.and_eq_true] at h2
 rw [← eqPL_ok _ _ h2.1, ← of_decide_eq_true h2.2]
 exact c19 x (key:=key) (by omega) (by simp [a.hp]) (by simp [a.he]) (by simp [a.hp]) (by simp [a.he]) a.hk (by omega) b.1 (by omega) H⟩
def fRead (t:Tm) (x:Cred) (e:Int) (h1:okt? t=true) (h2:readP t=(x,e)):FactP:=⟨⟨66,[.agg t.cells],.tup [.agg x.cells,.int .i64 e]⟩,fun H=>by
 have a:=okt h1
 have:=c66 a.1 (by omega) H
 rw [h2] at this
 exact this⟩
def fCheck (h:Tm) (n i:Int) (t:Tm) (b:Bool) (l:List Tm) (e:Bool) (h1:(okt? h && (okt? t && l.all okt?))=true) (h2:ckIncT h n i t l=e) (h3:(Lit.int .i64 n).wf=true∧(Lit.int .i64 i).wf=true):FactP:=⟨⟨68,[.agg h.cells,.int .i64 n,.int .i64 i,.agg t.cells,slV b 4 (cellsL l)],.bool e⟩,fun H=>by
 simp only [Bool.and_eq_true] at h1
 have a:=okt (t:=h) (by simp only [Bool.and_eq_true];exact h1.1)
 have c:=okt (t:=t) (by simp only [Bool.and_eq_true];exact h1.2.1)
 rw [← h2];exact c68 a.1 a.2 c.1 c.2 (fun x hx=>okt (List.all_eq_true.1 h1.2.2 x hx)) b h3.1 h3.2 H⟩
def xt0:Tm:= .mk 2 [108,111,103] 0 true []
def xt1:Tm:= .mk 2 [108,111,103] 1 true []
def xt2:Tm:= .mk 3 [115,107] 0 false [xt1]
def xt3:Tm:= .mk 2 [110,111,110,101] 5 true []
def xt4:Tm:= .mk 3 [104,97,115,104] 0 false [xt3]
def xt5:Tm:= .mk 2 [108,101,100,103,101,114] 5 true []
def xt6:Tm:= .mk 2 [110,48] 4 true []
def xt7:Tm:= .mk 3 [112,97,105,114] 0 false [xt6,xt4]
def xt8:Tm:= .mk 3 [112,97,105,114] 0 false [xt5,xt7]
def xt9:Tm:= .mk 3 [115,105,103,110] 0 false [xt8,xt2]
def xt10:Tm:= .mk 2 [97] 1 true []
def xt11:Tm:= .mk 3 [115,107] 0 false [xt10]
def xt12:Tm:= .mk 3 [112,107] 0 false [xt11]
def xc0:Cred:=⟨[97,46,111,114,103],xt12,false,true,[],true,[],0,0,9999⟩
def xt13:Tm:= .mk 2 [99,101,114,116] 5 true []
def xt14:Tm:= .mk 2 [97] 4 true []
def xt15:Tm:= .mk 2 [111,114,103] 4 true []
def xt16:Tm:= .mk 2 [101,110,100] 5 true []
def xt17:Tm:= .mk 3 [112,97,105,114] 0 false [xt15,xt16]
def xt18:Tm:= .mk 3 [112,97,105,114] 0 false [xt14,xt17]
def xt19:Tm:= .mk 2 [110,111] 4 true []
def xt20:Tm:= .mk 2 [110,57,57,57,57] 4 true []
def xt21:Tm:= .mk 3 [112,97,105,114] 0 false [xt6,xt20]
def xt22:Tm:= .mk 3 [112,97,105,114] 0 false [xt6,xt21]
def xt23:Tm:= .mk 3 [112,97,105,114] 0 false [xt16,xt22]
def xt24:Tm:= .mk 3 [112,97,105,114] 0 false [xt16,xt23]
def xt25:Tm:= .mk 3 [112,97,105,114] 0 false [xt19,xt24]
def xt26:Tm:= .mk 3 [112,97,105,114] 0 false [xt12,xt25]
def xt27:Tm:= .mk 3 [112,97,105,114] 0 false [xt18,xt26]
def xt28:Tm:= .mk 3 [112,97,105,114] 0 false [xt13,xt27]
def xt29:Tm:= .mk 3 [115,105,103,110] 0 false [xt28,xt2]
def xt30:Tm:= .mk 2 [108,101,97,102] 5 true []
def xt31:Tm:= .mk 3 [112,97,105,114] 0 false [xt30,xt29]
def xt32:Tm:= .mk 3 [104,97,115,104] 0 false [xt31]
def xt33:Tm:= .mk 2 [110,49] 4 true []
def xt34:Tm:= .mk 3 [112,97,105,114] 0 false [xt33,xt32]
def xt35:Tm:= .mk 3 [112,97,105,114] 0 false [xt5,xt34]
def xt36:Tm:= .mk 3 [115,105,103,110] 0 false [xt35,xt2]
def xt37:Tm:= .mk 2 [98] 1 true []
def xt38:Tm:= .mk 3 [115,107] 0 false [xt37]
def xt39:Tm:= .mk 3 [112,107] 0 false [xt38]
def xc1:Cred:=⟨[98,46,111,114,103],xt39,false,true,[],true,[],1,0,9999⟩
def xt40:Tm:= .mk 2 [98] 4 true []
def xt41:Tm:= .mk 3 [112,97,105,114] 0 false [xt40,xt17]
def xt42:Tm:= .mk 3 [112,97,105,114] 0 false [xt33,xt21]
def xt43:Tm:= .mk 3 [112,97,105,114] 0 false [xt16,xt42]
def xt44:Tm:= .mk 3 [112,97,105,114] 0 false [xt16,xt43]
def xt45:Tm:= .mk 3 [112,97,105,114] 0 false [xt19,xt44]
def xt46:Tm:= .mk 3 [112,97,105,114] 0 false [xt39,xt45]
def xt47:Tm:= .mk 3 [112,97,105,114] 0 false [xt41,xt46]
def xt48:Tm:= .mk 3 [112,97,105,114] 0 false [xt13,xt47]
def xt49:Tm:= .mk 3 [115,105,103,110] 0 false [xt48,xt2]
def xt50:Tm:= .mk 2 [110,111,100,101] 5 true []
def xt51:Tm:= .mk 3 [112,97,105,114] 0 false [xt30,xt49]
def xt52:Tm:= .mk 3 [104,97,115,104] 0 false [xt51]
def xt53:Tm:= .mk 3 [112,97,105,114] 0 false [xt32,xt52]
def xt54:Tm:= .mk 3 [112,97,105,114] 0 false [xt50,xt53]
def xt55:Tm:= .mk 3 [104,97,115,104] 0 false [xt54]
def xt56:Tm:= .mk 2 [110,50] 4 true []
def xt57:Tm:= .mk 3 [112,97,105,114] 0 false [xt56,xt55]
def xt58:Tm:= .mk 3 [112,97,105,114] 0 false [xt5,xt57]
def xt59:Tm:= .mk 3 [115,105,103,110] 0 false [xt58,xt2]
def xt60:Tm:= .mk 3 [112,107] 0 false [xt2]
def xc2:Cred:=⟨[97,46,111,114,103],xt12,false,true,[],true,[],2,0,0⟩
def xt61:Tm:= .mk 3 [112,97,105,114] 0 false [xt6,xt6]
def xt62:Tm:= .mk 3 [112,97,105,114] 0 false [xt56,xt61]
def xt63:Tm:= .mk 3 [112,97,105,114] 0 false [xt16,xt62]
def xt64:Tm:= .mk 3 [112,97,105,114] 0 false [xt16,xt63]
def xt65:Tm:= .mk 3 [112,97,105,114] 0 false [xt19,xt64]
def xt66:Tm:= .mk 3 [112,97,105,114] 0 false [xt12,xt65]
def xt67:Tm:= .mk 3 [112,97,105,114] 0 false [xt18,xt66]
def xt68:Tm:= .mk 3 [112,97,105,114] 0 false [xt13,xt67]
def xt69:Tm:= .mk 3 [115,105,103,110] 0 false [xt68,xt2]
def xt70:Tm:= .mk 3 [112,97,105,114] 0 false [xt30,xt69]
def xt71:Tm:= .mk 3 [104,97,115,104] 0 false [xt70]
def xt72:Tm:= .mk 3 [112,97,105,114] 0 false [xt55,xt71]
def xt73:Tm:= .mk 3 [112,97,105,114] 0 false [xt50,xt72]
def xt74:Tm:= .mk 3 [104,97,115,104] 0 false [xt73]
def xt75:Tm:= .mk 2 [110,51] 4 true []
def xt76:Tm:= .mk 3 [112,97,105,114] 0 false [xt75,xt74]
def xt77:Tm:= .mk 3 [112,97,105,114] 0 false [xt5,xt76]
def xt78:Tm:= .mk 3 [115,105,103,110] 0 false [xt77,xt2]
def xf0:FactP:=fValid xt0 0 (by kernel_rfl) (by kernel_rfl)
def xf1:FactP:=fCompare xt2 xt2 0 (by kernel_rfl) (by kernel_rfl)
def xf2:FactP:=fValid xt4 0 (by kernel_rfl) (by kernel_rfl)
def xf3:FactP:=fCopyL xt4 xt4 (by kernel_rfl) (by kernel_rfl)
def xf4:FactP:=fValid xt2 0 (by kernel_rfl) (by kernel_rfl)
def xf5:FactP:=fFmt 0 [48] (by decide) (by kernel_rfl)
def xf6:FactP:=fCopyL xt2 xt2 (by kernel_rfl) (by kernel_rfl)
def xf7:FactP:=fValid xt9 0 (by kernel_rfl) (by kernel_rfl)
def xf8:FactP:=fCValid xc0 0 (by kernel_rfl) (by kernel_rfl)
def xf9:FactP:=fIssue xc0 xt2 xt29 0 (by kernel_rfl) (by kernel_rfl)
def xf10:FactP:=fCopyK xt2 xt2 (by kernel_rfl) (by kernel_rfl)
def xf11:FactP:=fCopyK xt12 xt12 (by kernel_rfl) (by kernel_rfl)
def xf12:FactP:=fValid xt29 0 (by kernel_rfl) (by kernel_rfl)
def xf13:FactP:=fValid xt32 0 (by kernel_rfl) (by kernel_rfl)
def xf14:FactP:=fCopyL xt32 xt32 (by kernel_rfl) (by kernel_rfl)
def xf15:FactP:=fFmt 1 [49] (by decide) (by kernel_rfl)
def xf16:FactP:=fValid xt36 0 (by kernel_rfl) (by kernel_rfl)
def xf17:FactP:=fRead xt29 xc0 0 (by kernel_rfl) (by kernel_rfl)
def xf18:FactP:=fCompare xt29 xt29 0 (by kernel_rfl) (by kernel_rfl)
def xf19:FactP:=fCompare xt12 xt12 0 (by kernel_rfl) (by kernel_rfl)
def xf20:FactP:=fCValid xc1 0 (by kernel_rfl) (by kernel_rfl)
def xf21:FactP:=fIssue xc1 xt2 xt49 0 (by kernel_rfl) (by kernel_rfl)
def xf22:FactP:=fCopyK xt29 xt29 (by kernel_rfl) (by kernel_rfl)
def xf23:FactP:=fCopyK xt39 xt39 (by kernel_rfl) (by kernel_rfl)
def xf24:FactP:=fValid xt49 0 (by kernel_rfl) (by kernel_rfl)
def xf25:FactP:=fValid xt55 0 (by kernel_rfl) (by kernel_rfl)
def xf26:FactP:=fCopyL xt55 xt55 (by kernel_rfl) (by kernel_rfl)
def xf27:FactP:=fFmt 2 [50] (by decide) (by kernel_rfl)
def xf28:FactP:=fValid xt59 0 (by kernel_rfl) (by kernel_rfl)
def xf29:FactP:=fRead xt49 xc1 0 (by kernel_rfl) (by kernel_rfl)
def xf30:FactP:=fCompare xt49 xt49 0 (by kernel_rfl) (by kernel_rfl)
def xf31:FactP:=fCompare xt39 xt39 0 (by kernel_rfl) (by kernel_rfl)
def xf32:FactP:=fCopyL xt52 xt52 (by kernel_rfl) (by kernel_rfl)
def xf33:FactP:=fValid xt60 0 (by kernel_rfl) (by kernel_rfl)
def xf34:FactP:=fCompare xt59 xt59 0 (by kernel_rfl) (by kernel_rfl)
def xf35:FactP:=fCheck xt55 2 0 xt29 false [xt52] true (by kernel_rfl) (by kernel_rfl) ⟨by kernel_rfl,by kernel_rfl⟩
def xf36:FactP:=fCopyK xt60 xt60 (by kernel_rfl) (by kernel_rfl)
def xf37:FactP:=fCopyK xt55 xt55 (by kernel_rfl) (by kernel_rfl)
def xf38:FactP:=fCopyK xt59 xt59 (by kernel_rfl) (by kernel_rfl)
def xf39:FactP:=fSame xt12 xt12 true (by kernel_rfl) (by kernel_rfl)
def xf40:FactP:=fIssue xc2 xt2 xt69 0 (by kernel_rfl) (by kernel_rfl)
def xf41:FactP:=fCopyK xt49 xt49 (by kernel_rfl) (by kernel_rfl)
def xf42:FactP:=fValid xt69 0 (by kernel_rfl) (by kernel_rfl)
def xf43:FactP:=fValid xt74 0 (by kernel_rfl) (by kernel_rfl)
def xf44:FactP:=fCopyL xt74 xt74 (by kernel_rfl) (by kernel_rfl)
def xf45:FactP:=fFmt 3 [51] (by decide) (by kernel_rfl)
def xf46:FactP:=fValid xt78 0 (by kernel_rfl) (by kernel_rfl)
def xf47:FactP:=fRead xt69 xc2 0 (by kernel_rfl) (by kernel_rfl)
def xf48:FactP:=fCompare xt69 xt69 0 (by kernel_rfl) (by kernel_rfl)
def factsP:List FactP:=[xf0,xf1,xf2,xf3,xf4,xf5,xf6,xf7,xf8,xf9,xf10,xf11,xf12,xf13,xf14,xf15,xf16,xf17,xf18,xf19,xf20,xf21,xf22,xf23,xf24,xf25,xf26,xf27,xf28,xf29,xf30,xf31,xf32,xf33,xf34,xf35,xf36,xf37,xf38,xf39,xf40,xf41,xf42,xf43,xf44,xf45,xf46,xf47,xf48]
def facts57:List Fact:=factsP.map Subtype.val
theorem facts57_ok:∀ x∈facts57,FactOk E0 Tryz.prog x:=fun x hx=>by
 obtain ⟨p,_,rfl⟩:=List.mem_map.1 hx
 exact p.2
end Go.Vm.Seat
namespace Go.Vm.Seat
open Go.Proofs
set_option maxRecDepth 100000
end Go.Vm.Seat
namespace Go.Vm.Seat
open Go.Proofs
set_option maxRecDepth 100000
end Go.Vm.Seat
namespace Go.Vm.Seat
open Go.Proofs
set_option maxRecDepth 100000
theorem awakeFact57:okFact (E7.knowsG facts57) 100 60 ⟨12,[],.bool true⟩=true:=by kernel_rfl
theorem facts7_ok:∀ x∈facts57,FactOk E7 Tryz.prog x:=fun x hx=>(facts57_ok x hx).env rfl
theorem fOk7:FOk E7 Tryz.prog:=fun f fn c h hb=>fOk f fn c h hb
theorem zOk7:CallsOk E7 Tryz.prog E7.Z:=calls_more (E:=E0) (E':=E7) rfl rfl rfl (fun h=>h) (fun f h=>by
 simp only [E7,Bool.or_eq_false_iff] at h
 exact h.1) zOk
theorem awakeOk57:∀ H,CallOk E0 Tryz.prog 12 [] H (.bool true) H:=fun H=>by
 have h:FactOk (E7.knowsG facts57) Tryz.prog ⟨12,[],.bool true⟩:=okFact_ok (E:=E7.knowsG facts57) ⟨tOk7.1⟩ follows (knowsG_F fOk7) (knowsG_calls facts7_ok zOk7) awakeFact57
 exact to70 ((h H).env rfl)
end Go.Vm.Seat
namespace Go.Vm.Seat
open Go.Proofs
set_option maxRecDepth 100000
theorem zero_ok {S:Nat} (h1:1≤S):RdOk S .zero∧Tm.zero.Ok∧Tm.zero.size≤S:=by
 have hz:Tm.zero.Ok∧Tm.zero.size≤S:=⟨Tm.ok_zero,by simpa [Tm.zero,Tm.size,sizeL] using h1⟩
 exact ⟨⟨hz,hz,hz⟩,hz⟩
theorem accR_ok {c:Rd} {a:An} (hc:RdOk 2000 c) (ha:AnSm a 2000):RdOk 2000 (accR c a).1∧(accR c a).2.1.Ok∧(accR c a).2.1.size≤2000:=by
 have hz:=zero_ok (S:=2000) (by omega)
 obtain ⟨r1,r2, -⟩:=read_key ha.ok.e ha.e (by omega)
 unfold accR
 split; · exact hz
 split; · exact hz
 split; · exact hz
 split; · exact hz
 split; · exact hz
 split; · exact hz
 exact ⟨⟨hc.1,⟨ha.ok.h,ha.h⟩,ha.ok.s,ha.s⟩,r1,r2⟩
theorem rd_more {S T:Nat} {c:Rd} (h:RdOk S c) (hST:S≤T):RdOk T c:=⟨⟨h.1.1,Nat.le_trans h.1.2 hST⟩,⟨h.2.1.1,Nat.le_trans h.2.1.2 hST⟩,h.2.2.1,Nat.le_trans h.2.2.2 hST⟩
theorem erq_tt {a b:Int} (h:a=b):aBin E0 .eql 31 (.int .i64 a) (.int .i64 b)=some (.bool true):=by
 show some (PV.bool (a == b))=_
 rw [h,beq_self_eq_true]
end Go.Vm.Seat
