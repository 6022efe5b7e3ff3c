/-
  KeyserviceFollows: the examples of the service hold, by facts about its functions at closed terms.
-/
import Derived.Test.YtpgfeijkfmgnjaaGreatDoorIe
import Derived.Test.YtpgfeijkfmgnjaaGreatDoorKx
set_option maxHeartbeats 0
set_option maxRecDepth 100000
namespace Go.Vm.Seat
variable {s:Sv}
open Go.Proofs
theorem okt {t:Tm} (h:(Zoe t&&Nat.ble t.size 20000)=true):t.Ok∧t.size≤20000:=by
 simp only [Bool.and_eq_true] at h
 exact ⟨ZiJ t h.1,Nat.le_of_ble_eq_true h.2⟩
abbrev okt? (t:Tm):Bool:=Zoe t&&Nat.ble t.size 20000
abbrev Z8:={x:Fact // FactOk E0 Tryz.prog x}
def Wv (t:Tm) (e:Int) (h1:okt? t=true) (h2:t.valid=e):Z8:=⟨⟨41,[.agg t.cells],.int .i64 e⟩,fun H=>by
 have:=okt h1
 rw [← h2];exact c41 this.1 (by omega) H⟩
def W3 (t u:Tm) (e:Int) (h1:(okt? t&&okt? u)=true) (h2:t.cmp u=e):Z8:=⟨⟨75,[.agg t.cells,.agg u.cells],.int .i64 e⟩,fun H=>by
 rw [Bool.and_eq_true] at h1
 have a:=okt h1.1
 have b:=okt h1.2
 rw [← h2];exact Zlw (d75 a.1 b.1 (by omega) (by omega) H)⟩
def ZrK (t u:Tm) (e:Bool) (h1:(okt? t&&okt? u)=true) (h2:decide (t.cmp u=0)=e):Z8:=⟨⟨13,[.agg t.cells,.agg u.cells],.bool e⟩,fun H=>by
 rw [Bool.and_eq_true] at h1
 have a:=okt h1.1
 have b:=okt h1.2
 rw [← h2];exact c13 a.1 b.1 (by omega) (by omega) H⟩
def ZbB (t u:Tm) (h1:okt? t=true) (h2:Zd4 t.cl.cells u.cells=true):Z8:=⟨⟨65,[.agg t.cells],.agg u.cells⟩,fun H=>by
 have:=okt h1
 rw [← ZaM _ _ h2];exact c65 this.1 (by omega) H⟩
def QE (t u:Tm) (h1:okt? t=true) (h2:Zd4 t.cl.cells u.cells=true):Z8:=⟨⟨20,[.agg t.cells],.agg u.cells⟩,fun H=>by
 have:=okt h1
 rw [← ZaM _ _ h2];exact c20 this.1 (by omega) H⟩
def Zpl (n:Int) (s:List UInt8) (h1:0≤n∧n≤9999) (h2:Lib.itoa n=s):Z8:=⟨⟨152,[.int .i64 n,.int .i64 10],.str s⟩,fun H=>by
 rw [← h2];exact Zsr h1.1 h1.2 H⟩
def okc? (x:Cred):Bool:=Nat.ble x.sub.length 1000&&(okt? x.key&&(x.per.isEmpty&&x.exc.isEmpty))
structure OkC (x:Cred):Prop where
 h1:x.sub.length≤1000
 hk:x.key.Ok
 hks:x.key.size≤20000
 hp:x.per= []
 he:x.exc= []
theorem okc {x:Cred} (h:okc? x=true):OkC x:=by
 simp only [okc?,Bool.and_eq_true,List.isEmpty_iff] at h
 have:=okt (t:=x.key) (by simp only [Bool.and_eq_true];exact h.2.1)
 exact ⟨Nat.le_of_ble_eq_true h.1,this.1,this.2,h.2.2.1,h.2.2.2⟩
def Zjh (x:Cred) (e:Int) (h1:okc? x=true) (h2:x.valid=e):Z8:=⟨⟨82,[.agg x.cells],.int .i64 e⟩,fun H=>by
 have a:=okc h1
 have:=a.hks
 have:=a.h1
 rw [← h2];exact c82 x (by omega) a.hk (by omega) (by simp [a.hp]) (by simp [a.he]) (by simp [a.hp]) (by simp [a.he]) H⟩
def Zi3 (x:Cred) (key:Tm) (t:Tm) (e:Int) (h1:(okc? x&&okt? key)=true) (h2:(Zd4 (x.issue key).1.cells t.cells&&decide ((x.issue key).2=e))=true):Z8:=⟨⟨59,[.agg x.cells,.agg key.cells],.tup [.agg t.cells,.int .i64 e]⟩,fun H=>by
 rw [Bool.and_eq_true] at h1
 have a:=okc h1.1
 have b:=okt h1.2
 have:=a.hks
 have:=a.h1
 rw [Bool.and_eq_true] at h2
 rw [← ZaM _ _ h2.1, ← of_decide_eq_true h2.2]
 exact c59 x (key:=key) (by omega) (by simp [a.hp]) (by simp [a.he]) (by simp [a.hp]) (by simp [a.he]) a.hk (by omega) b.1 (by omega) H⟩
def Zl8 (t:Tm) (x:Cred) (e:Int) (h1:okt? t=true) (h2:Zf t=(x,e)):Z8:=⟨⟨24,[.agg t.cells],.tup [.agg x.cells,.int .i64 e]⟩,fun H=>by
 have a:=okt h1
 have:=c24 a.1 (by omega) H
 rw [h2] at this
 exact this⟩
def ZoA (h:Tm) (n i:Int) (t:Tm) (b:Bool) (l:List Tm) (e:Bool) (h1:(okt? h&&(okt? t&&l.all okt?))=true) (h2:Vv h n i t l=e) (h3:(Lit.int .i64 n).wf=true∧(Lit.int .i64 i).wf=true):Z8:=⟨⟨33,[.agg h.cells,.int .i64 n,.int .i64 i,.agg t.cells,slV b 4 (Za l)],.bool e⟩,fun H=>by
 simp only [Bool.and_eq_true] at h1
 have a:=okt (t:=h) (by simp only [Bool.and_eq_true];exact h1.1)
 have c:=okt (t:=t) (by simp only [Bool.and_eq_true];exact h1.2.1)
 rw [← h2];exact c33 a.1 a.2 c.1 c.2 (fun x hx=>okt (List.all_eq_true.1 h1.2.2 x hx)) b h3.1 h3.2 H⟩
def xt0:Tm:= .mk 2 [108,111,103] 0 true []
def xt1:Tm:= .mk 2 [108,111,103] 1 true []
def xt2:Tm:= .mk 3 [115,107] 0 false [xt1]
def xt3:Tm:= .mk 2 [110,111,110,101] 5 true []
def xt4:Tm:= .mk 3 [104,97,115,104] 0 false [xt3]
def xt5:Tm:= .mk 2 [108,101,100,103,101,114] 5 true []
def xt6:Tm:= .mk 2 [110,48] 4 true []
def xt7:Tm:= .mk 3 [112,97,105,114] 0 false [xt6,xt4]
def xt8:Tm:= .mk 3 [112,97,105,114] 0 false [xt5,xt7]
def xt9:Tm:= .mk 3 [115,105,103,110] 0 false [xt8,xt2]
def ZsH:Tm:= .mk 2 [97] 1 true []
def Zs5:Tm:= .mk 3 [115,107] 0 false [ZsH]
def ZjN:Tm:= .mk 3 [112,107] 0 false [Zs5]
def xc0:Cred:=⟨[97,46,111,114,103],ZjN,false,true,[],true,[],0,0,9999⟩
def Zrq:Tm:= .mk 2 [99,101,114,116] 5 true []
def ZuS:Tm:= .mk 2 [97] 4 true []
def ZtN:Tm:= .mk 2 [111,114,103] 4 true []
def ZmM:Tm:= .mk 2 [101,110,100] 5 true []
def Zr7:Tm:= .mk 3 [112,97,105,114] 0 false [ZtN,ZmM]
def Zr4:Tm:= .mk 3 [112,97,105,114] 0 false [ZuS,Zr7]
def Zrt:Tm:= .mk 2 [110,111] 4 true []
def ZvJ:Tm:= .mk 2 [110,57,57,57,57] 4 true []
def Zsy:Tm:= .mk 3 [112,97,105,114] 0 false [xt6,ZvJ]
def ZtC:Tm:= .mk 3 [112,97,105,114] 0 false [xt6,Zsy]
def Zua:Tm:= .mk 3 [112,97,105,114] 0 false [ZmM,ZtC]
def Zt5:Tm:= .mk 3 [112,97,105,114] 0 false [ZmM,Zua]
def Zuh:Tm:= .mk 3 [112,97,105,114] 0 false [Zrt,Zt5]
def Zs9:Tm:= .mk 3 [112,97,105,114] 0 false [ZjN,Zuh]
def ZsP:Tm:= .mk 3 [112,97,105,114] 0 false [Zr4,Zs9]
def ZtU:Tm:= .mk 3 [112,97,105,114] 0 false [Zrq,ZsP]
def Zk3:Tm:= .mk 3 [115,105,103,110] 0 false [ZtU,xt2]
def ZpZ:Tm:= .mk 2 [108,101,97,102] 5 true []
def ZsK:Tm:= .mk 3 [112,97,105,114] 0 false [ZpZ,Zk3]
def Zop:Tm:= .mk 3 [104,97,115,104] 0 false [ZsK]
def ZrP:Tm:= .mk 2 [110,49] 4 true []
def Zu9:Tm:= .mk 3 [112,97,105,114] 0 false [ZrP,Zop]
def Zun:Tm:= .mk 3 [112,97,105,114] 0 false [xt5,Zu9]
def Zu4:Tm:= .mk 3 [115,105,103,110] 0 false [Zun,xt2]
def Ztz:Tm:= .mk 2 [98] 1 true []
def Zt3:Tm:= .mk 3 [115,107] 0 false [Ztz]
def Znr:Tm:= .mk 3 [112,107] 0 false [Zt3]
def xc1:Cred:=⟨[98,46,111,114,103],Znr,false,true,[],true,[],1,0,9999⟩
def ZsO:Tm:= .mk 2 [98] 4 true []
def Zu5:Tm:= .mk 3 [112,97,105,114] 0 false [ZsO,Zr7]
def ZuO:Tm:= .mk 3 [112,97,105,114] 0 false [ZrP,Zsy]
def Zu1:Tm:= .mk 3 [112,97,105,114] 0 false [ZmM,ZuO]
def ZvL:Tm:= .mk 3 [112,97,105,114] 0 false [ZmM,Zu1]
def Zuj:Tm:= .mk 3 [112,97,105,114] 0 false [Zrt,ZvL]
def Zud:Tm:= .mk 3 [112,97,105,114] 0 false [Znr,Zuj]
def Zvr:Tm:= .mk 3 [112,97,105,114] 0 false [Zu5,Zud]
def ZsM:Tm:= .mk 3 [112,97,105,114] 0 false [Zrq,Zvr]
def Zlp:Tm:= .mk 3 [115,105,103,110] 0 false [ZsM,xt2]
def Zsz:Tm:= .mk 2 [110,111,100,101] 5 true []
def Zui:Tm:= .mk 3 [112,97,105,114] 0 false [ZpZ,Zlp]
def Zps:Tm:= .mk 3 [104,97,115,104] 0 false [Zui]
def ZuD:Tm:= .mk 3 [112,97,105,114] 0 false [Zop,Zps]
def Zs6:Tm:= .mk 3 [112,97,105,114] 0 false [Zsz,ZuD]
def Zlx:Tm:= .mk 3 [104,97,115,104] 0 false [Zs6]
def Zr0:Tm:= .mk 2 [110,50] 4 true []
def ZuW:Tm:= .mk 3 [112,97,105,114] 0 false [Zr0,Zlx]
def Zt2:Tm:= .mk 3 [112,97,105,114] 0 false [xt5,ZuW]
def ZoT:Tm:= .mk 3 [115,105,103,110] 0 false [Zt2,xt2]
def ZpE:Tm:= .mk 3 [112,107] 0 false [xt2]
def xc2:Cred:=⟨[97,46,111,114,103],ZjN,false,true,[],true,[],2,0,0⟩
def Ztn:Tm:= .mk 3 [112,97,105,114] 0 false [xt6,xt6]
def Zs8:Tm:= .mk 3 [112,97,105,114] 0 false [Zr0,Ztn]
def Ztw:Tm:= .mk 3 [112,97,105,114] 0 false [ZmM,Zs8]
def ZuY:Tm:= .mk 3 [112,97,105,114] 0 false [ZmM,Ztw]
def Zty:Tm:= .mk 3 [112,97,105,114] 0 false [Zrt,ZuY]
def ZvK:Tm:= .mk 3 [112,97,105,114] 0 false [ZjN,Zty]
def Zvi:Tm:= .mk 3 [112,97,105,114] 0 false [Zr4,ZvK]
def ZvB:Tm:= .mk 3 [112,97,105,114] 0 false [Zrq,Zvi]
def Znz:Tm:= .mk 3 [115,105,103,110] 0 false [ZvB,xt2]
def Zt0:Tm:= .mk 3 [112,97,105,114] 0 false [ZpZ,Znz]
def ZuJ:Tm:= .mk 3 [104,97,115,104] 0 false [Zt0]
def ZtP:Tm:= .mk 3 [112,97,105,114] 0 false [Zlx,ZuJ]
def Zvv:Tm:= .mk 3 [112,97,105,114] 0 false [Zsz,ZtP]
def Zpt:Tm:= .mk 3 [104,97,115,104] 0 false [Zvv]
def Zvf:Tm:= .mk 2 [110,51] 4 true []
def ZuI:Tm:= .mk 3 [112,97,105,114] 0 false [Zvf,Zpt]
def Zut:Tm:= .mk 3 [112,97,105,114] 0 false [xt5,ZuI]
def Zts:Tm:= .mk 3 [115,105,103,110] 0 false [Zut,xt2]
def xf0:Z8:=Wv xt0 0 (by kernel_rfl) (by kernel_rfl)
def xf1:Z8:=W3 xt2 xt2 0 (by kernel_rfl) (by kernel_rfl)
def xf2:Z8:=Wv xt4 0 (by kernel_rfl) (by kernel_rfl)
def xf3:Z8:=ZbB xt4 xt4 (by kernel_rfl) (by kernel_rfl)
def xf4:Z8:=Wv xt2 0 (by kernel_rfl) (by kernel_rfl)
def xf5:Z8:=Zpl 0 [48] (by decide) (by kernel_rfl)
def xf6:Z8:=ZbB xt2 xt2 (by kernel_rfl) (by kernel_rfl)
def xf7:Z8:=Wv xt9 0 (by kernel_rfl) (by kernel_rfl)
def xf8:Z8:=Zjh xc0 0 (by kernel_rfl) (by kernel_rfl)
def xf9:Z8:=Zi3 xc0 xt2 Zk3 0 (by kernel_rfl) (by kernel_rfl)
def ZvA:Z8:=QE xt2 xt2 (by kernel_rfl) (by kernel_rfl)
def ZtE:Z8:=QE ZjN ZjN (by kernel_rfl) (by kernel_rfl)
def ZuQ:Z8:=Wv Zk3 0 (by kernel_rfl) (by kernel_rfl)
def Zuc:Z8:=Wv Zop 0 (by kernel_rfl) (by kernel_rfl)
def Zu0:Z8:=ZbB Zop Zop (by kernel_rfl) (by kernel_rfl)
def Zt4:Z8:=Zpl 1 [49] (by decide) (by kernel_rfl)
def Zte:Z8:=Wv Zu4 0 (by kernel_rfl) (by kernel_rfl)
def Zt6:Z8:=Zl8 Zk3 xc0 0 (by kernel_rfl) (by kernel_rfl)
def ZtZ:Z8:=W3 Zk3 Zk3 0 (by kernel_rfl) (by kernel_rfl)
def ZtX:Z8:=W3 ZjN ZjN 0 (by kernel_rfl) (by kernel_rfl)
def ZuH:Z8:=Zjh xc1 0 (by kernel_rfl) (by kernel_rfl)
def Zt1:Z8:=Zi3 xc1 xt2 Zlp 0 (by kernel_rfl) (by kernel_rfl)
def ZtW:Z8:=QE Zk3 Zk3 (by kernel_rfl) (by kernel_rfl)
def Zt8:Z8:=QE Znr Znr (by kernel_rfl) (by kernel_rfl)
def Ztb:Z8:=Wv Zlp 0 (by kernel_rfl) (by kernel_rfl)
def Ztu:Z8:=Wv Zlx 0 (by kernel_rfl) (by kernel_rfl)
def ZtO:Z8:=ZbB Zlx Zlx (by kernel_rfl) (by kernel_rfl)
def Zs7:Z8:=Zpl 2 [50] (by decide) (by kernel_rfl)
def Zvl:Z8:=Wv ZoT 0 (by kernel_rfl) (by kernel_rfl)
def ZsJ:Z8:=Zl8 Zlp xc1 0 (by kernel_rfl) (by kernel_rfl)
def ZvD:Z8:=W3 Zlp Zlp 0 (by kernel_rfl) (by kernel_rfl)
def Zvm:Z8:=W3 Znr Znr 0 (by kernel_rfl) (by kernel_rfl)
def ZsY:Z8:=ZbB Zps Zps (by kernel_rfl) (by kernel_rfl)
def ZvM:Z8:=Wv ZpE 0 (by kernel_rfl) (by kernel_rfl)
def ZtA:Z8:=W3 ZoT ZoT 0 (by kernel_rfl) (by kernel_rfl)
def Zs3:Z8:=ZoA Zlx 2 0 Zk3 false [Zps] true (by kernel_rfl) (by kernel_rfl) ⟨by kernel_rfl,by kernel_rfl⟩
def Zuw:Z8:=QE ZpE ZpE (by kernel_rfl) (by kernel_rfl)
def ZtQ:Z8:=QE Zlx Zlx (by kernel_rfl) (by kernel_rfl)
def Ztt:Z8:=QE ZoT ZoT (by kernel_rfl) (by kernel_rfl)
def Ztf:Z8:=ZrK ZjN ZjN true (by kernel_rfl) (by kernel_rfl)
def Zue:Z8:=Zi3 xc2 xt2 Znz 0 (by kernel_rfl) (by kernel_rfl)
def Zub:Z8:=QE Zlp Zlp (by kernel_rfl) (by kernel_rfl)
def Zuv:Z8:=Wv Znz 0 (by kernel_rfl) (by kernel_rfl)
def Ztk:Z8:=Wv Zpt 0 (by kernel_rfl) (by kernel_rfl)
def ZtT:Z8:=ZbB Zpt Zpt (by kernel_rfl) (by kernel_rfl)
def Ztg:Z8:=Zpl 3 [51] (by decide) (by kernel_rfl)
def ZsS:Z8:=Wv Zts 0 (by kernel_rfl) (by kernel_rfl)
def ZtK:Z8:=Zl8 Znz xc2 0 (by kernel_rfl) (by kernel_rfl)
def Zur:Z8:=W3 Znz Znz 0 (by kernel_rfl) (by kernel_rfl)
def factsP:List Z8:=[xf0,xf1,xf2,xf3,xf4,xf5,xf6,xf7,xf8,xf9,ZvA,ZtE,ZuQ,Zuc,Zu0,Zt4,Zte,Zt6,ZtZ,ZtX,ZuH,Zt1,ZtW,Zt8,Ztb,Ztu,ZtO,Zs7,Zvl,ZsJ,ZvD,Zvm,ZsY,ZvM,ZtA,Zs3,Zuw,ZtQ,Ztt,Ztf,Zue,Zub,Zuv,Ztk,ZtT,Ztg,ZsS,ZtK,Zur]
def ZaL:List Fact:=factsP.map Subtype.val
theorem Zg4:∀ x∈ZaL,FactOk E0 Tryz.prog x:=fun x hx=>by
 obtain ⟨p,_,rfl⟩:=List.mem_map.1 hx
 exact p.2
theorem Zei:QQ (E7.knowsG ZaL) 100 60 ⟨4,[],.bool true⟩=true:=by kernel_rfl
theorem Zjf:∀ x∈ZaL,FactOk E7 Tryz.prog x:=fun x hx=>(Zg4 x hx).env rfl
theorem Ztx:FOk E7 Tryz.prog:=fun f fn c h hb=>fOk f fn c h hb
theorem ZsZ:YE E7 Tryz.prog E7.Z:=ZgJ (E:=E0) (E':=E7) rfl rfl rfl (fun h=>h) (fun f h=>by
 simp only [E7,Bool.or_eq_false_iff] at h
 exact h.1) zOk
theorem Zip:∀ H,CallOk E0 Tryz.prog 4 [] H (.bool true) H:=fun H=>by
 have h:FactOk (E7.knowsG ZaL) Tryz.prog ⟨4,[],.bool true⟩:=Xs (E:=E7.knowsG ZaL) ⟨WF.1⟩ follows (Zkq Ztx) (ZdT Zjf ZsZ) Zei
 exact ZpS ((h H).env rfl)
end Go.Vm.Seat
