/-
  The calls of the examples of the service of keys, by the contracts of the functions called. KeyserviceCurrent: the law's function returns true at any 
-/
import Derived.Test.YtkaocdljkonfaaaGreatDoorHb
import Derived.Test.YtkaocdljkonfaaaGreatDoorRows
import Derived.ProofKit
import Derived.Stop.LaidErr
import Derived.Lib.LaidTab
namespace Go.Vm.Seat
open Go.Proofs
set_option maxRecDepth 100000
theorem okt {t:Tm} (h:(Zn9 t&&Nat.ble t.size 20000)=true):t.Ok∧t.size≤20000:=by
 simp only [Bool.and_eq_true] at h
 exact ⟨Zji t h.1,Nat.le_of_ble_eq_true h.2⟩
abbrev okt? (t:Tm):Bool:=Zn9 t&&Nat.ble t.size 20000
abbrev Z7:={x:Fact // FactOk E0 Tryz.prog x}
def Wr (t:Tm) (e:Int) (h1:okt? t=true) (h2:t.valid=e):Z7:=⟨⟨74,[.agg t.cells],.int .i64 e⟩,fun H=>by
 have:=okt h1
 rw [← h2];exact c74 this.1 (by omega) H⟩
def WX (t u:Tm) (e:Int) (h1:(okt? t&&okt? u)=true) (h2:t.cmp u=e):Z7:=⟨⟨77,[.agg t.cells,.agg u.cells],.int .i64 e⟩,fun H=>by
 rw [Bool.and_eq_true] at h1
 have a:=okt h1.1
 have b:=okt h1.2
 rw [← h2];exact Zll (d77 a.1 b.1 (by omega) (by omega) H)⟩
def ZpP (t u:Tm) (e:Bool) (h1:(okt? t&&okt? u)=true) (h2:decide (t.cmp u=0)=e):Z7:=⟨⟨23,[.agg t.cells,.agg u.cells],.bool e⟩,fun H=>by
 rw [Bool.and_eq_true] at h1
 have a:=okt h1.1
 have b:=okt h1.2
 rw [← h2];exact c23 a.1 b.1 (by omega) (by omega) H⟩
def Zb1 (t u:Tm) (h1:okt? t=true) (h2:Zd7 t.cl.cells u.cells=true):Z7:=⟨⟨80,[.agg t.cells],.agg u.cells⟩,fun H=>by
 have:=okt h1
 rw [← ZaW _ _ h2];exact c80 this.1 (by omega) H⟩
def Qv (t u:Tm) (h1:okt? t=true) (h2:Zd7 t.cl.cells u.cells=true):Z7:=⟨⟨33,[.agg t.cells],.agg u.cells⟩,fun H=>by
 have:=okt h1
 rw [← ZaW _ _ h2];exact c33 this.1 (by omega) H⟩
def Zpf (n:Int) (s:List UInt8) (h1:0≤n∧n≤9999) (h2:Lib.itoa n=s):Z7:=⟨⟨171,[.int .i64 n,.int .i64 10],.str s⟩,fun H=>by
 rw [← h2];exact c171 h1.1 h1.2 H⟩
def okc? (x:Cred):Bool:=Nat.ble x.sub.length 1000&&(okt? x.key&&(x.per.isEmpty&&x.exc.isEmpty))
structure OkC (x:Cred):Prop where
 h1:x.sub.length≤1000
 hk:x.key.Ok
 hks:x.key.size≤20000
 hp:x.per= []
 he:x.exc= []
theorem okc {x:Cred} (h:okc? x=true):OkC x:=by
 simp only [okc?,Bool.and_eq_true,List.isEmpty_iff] at h
 have:=okt (t:=x.key) (by simp only [Bool.and_eq_true];exact h.2.1)
 exact ⟨Nat.le_of_ble_eq_true h.1,this.1,this.2,h.2.2.1,h.2.2.2⟩
def Zjz (x:Cred) (e:Int) (h1:okc? x=true) (h2:x.valid=e):Z7:=⟨⟨117,[.agg x.cells],.int .i64 e⟩,fun H=>by
 have a:=okc h1
 have:=a.hks
 have:=a.h1
 rw [← h2];exact Zrz x (by omega) a.hk (by omega) (by simp [a.hp]) (by simp [a.he]) (by simp [a.hp]) (by simp [a.he]) H⟩
def ZhK (x:Cred) (key:Tm) (t:Tm) (e:Int) (h1:(okc? x&&okt? key)=true) (h2:(Zd7 (x.issue key).1.cells t.cells&&decide ((x.issue key).2=e))=true):Z7:=⟨⟨109,[.agg x.cells,.agg key.cells],.tup [.agg t.cells,.int .i64 e]⟩,fun H=>by
 rw [Bool.and_eq_true] at h1
 have a:=okc h1.1
 have b:=okt h1.2
 have:=a.hks
 have:=a.h1
 rw [Bool.and_eq_true] at h2
 rw [← ZaW _ _ h2.1, ← of_decide_eq_true h2.2]
 exact ZrP x (key:=key) (by omega) (by simp [a.hp]) (by simp [a.he]) (by simp [a.hp]) (by simp [a.he]) a.hk (by omega) b.1 (by omega) H⟩
def Zl5 (t:Tm) (x:Cred) (e:Int) (h1:okt? t=true) (h2:Zf t=(x,e)):Z7:=⟨⟨57,[.agg t.cells],.tup [.agg x.cells,.int .i64 e]⟩,fun H=>by
 have a:=okt h1
 have:=c57 a.1 (by omega) H
 rw [h2] at this
 exact this⟩
def Zoq (h:Tm) (n i:Int) (t:Tm) (b:Bool) (l:List Tm) (e:Bool) (h1:(okt? h&&(okt? t&&l.all okt?))=true) (h2:Vh h n i t l=e) (h3:(Lit.int .i64 n).wf=true∧(Lit.int .i64 i).wf=true):Z7:=⟨⟨59,[.agg h.cells,.int .i64 n,.int .i64 i,.agg t.cells,slV b 4 (Za l)],.bool e⟩,fun H=>by
 simp only [Bool.and_eq_true] at h1
 have a:=okt (t:=h) (by simp only [Bool.and_eq_true];exact h1.1)
 have c:=okt (t:=t) (by simp only [Bool.and_eq_true];exact h1.2.1)
 rw [← h2];exact c59 a.1 a.2 c.1 c.2 (fun x hx=>okt (List.all_eq_true.1 h1.2.2 x hx)) b h3.1 h3.2 H⟩
def xt0:Tm:= .mk 2 [108,111,103] 0 true []
def xt1:Tm:= .mk 2 [108,111,103] 1 true []
def xt2:Tm:= .mk 3 [115,107] 0 false [xt1]
def xt3:Tm:= .mk 2 [110,111,110,101] 5 true []
def xt4:Tm:= .mk 3 [104,97,115,104] 0 false [xt3]
def xt5:Tm:= .mk 2 [108,101,100,103,101,114] 5 true []
def xt6:Tm:= .mk 2 [110,48] 4 true []
def xt7:Tm:= .mk 3 [112,97,105,114] 0 false [xt6,xt4]
def xt8:Tm:= .mk 3 [112,97,105,114] 0 false [xt5,xt7]
def xt9:Tm:= .mk 3 [115,105,103,110] 0 false [xt8,xt2]
def ZvO:Tm:= .mk 2 [97] 1 true []
def ZuF:Tm:= .mk 3 [115,107] 0 false [ZvO]
def ZjQ:Tm:= .mk 3 [112,107] 0 false [ZuF]
def xc0:Cred:=⟨[97,46,111,114,103],ZjQ,false,true,[],true,[],0,0,9999⟩
def ZpI:Tm:= .mk 2 [99,101,114,116] 5 true []
def ZtN:Tm:= .mk 2 [97] 4 true []
def Zvu:Tm:= .mk 2 [111,114,103] 4 true []
def ZmL:Tm:= .mk 2 [101,110,100] 5 true []
def ZsO:Tm:= .mk 3 [112,97,105,114] 0 false [Zvu,ZmL]
def Zsx:Tm:= .mk 3 [112,97,105,114] 0 false [ZtN,ZsO]
def Zra:Tm:= .mk 2 [110,111] 4 true []
def Zt1:Tm:= .mk 2 [110,57,57,57,57] 4 true []
def Zse:Tm:= .mk 3 [112,97,105,114] 0 false [xt6,Zt1]
def ZsV:Tm:= .mk 3 [112,97,105,114] 0 false [xt6,Zse]
def Zt9:Tm:= .mk 3 [112,97,105,114] 0 false [ZmL,ZsV]
def ZvD:Tm:= .mk 3 [112,97,105,114] 0 false [ZmL,Zt9]
def ZtC:Tm:= .mk 3 [112,97,105,114] 0 false [Zra,ZvD]
def ZvM:Tm:= .mk 3 [112,97,105,114] 0 false [ZjQ,ZtC]
def Zs8:Tm:= .mk 3 [112,97,105,114] 0 false [Zsx,ZvM]
def Zu5:Tm:= .mk 3 [112,97,105,114] 0 false [ZpI,Zs8]
def ZkI:Tm:= .mk 3 [115,105,103,110] 0 false [Zu5,xt2]
def Zqs:Tm:= .mk 2 [108,101,97,102] 5 true []
def ZsY:Tm:= .mk 3 [112,97,105,114] 0 false [Zqs,ZkI]
def ZoN:Tm:= .mk 3 [104,97,115,104] 0 false [ZsY]
def ZsR:Tm:= .mk 2 [110,49] 4 true []
def Zvp:Tm:= .mk 3 [112,97,105,114] 0 false [ZsR,ZoN]
def Zva:Tm:= .mk 3 [112,97,105,114] 0 false [xt5,Zvp]
def Zux:Tm:= .mk 3 [115,105,103,110] 0 false [Zva,xt2]
def ZtG:Tm:= .mk 2 [98] 1 true []
def Zuw:Tm:= .mk 3 [115,107] 0 false [ZtG]
def Znw:Tm:= .mk 3 [112,107] 0 false [Zuw]
def xc1:Cred:=⟨[98,46,111,114,103],Znw,false,true,[],true,[],1,0,9999⟩
def ZvB:Tm:= .mk 2 [98] 4 true []
def Zu6:Tm:= .mk 3 [112,97,105,114] 0 false [ZvB,ZsO]
def Ztw:Tm:= .mk 3 [112,97,105,114] 0 false [ZsR,Zse]
def Ztb:Tm:= .mk 3 [112,97,105,114] 0 false [ZmL,Ztw]
def ZtH:Tm:= .mk 3 [112,97,105,114] 0 false [ZmL,Ztb]
def ZuI:Tm:= .mk 3 [112,97,105,114] 0 false [Zra,ZtH]
def ZuN:Tm:= .mk 3 [112,97,105,114] 0 false [Znw,ZuI]
def ZuE:Tm:= .mk 3 [112,97,105,114] 0 false [Zu6,ZuN]
def Zu2:Tm:= .mk 3 [112,97,105,114] 0 false [ZpI,ZuE]
def Zlu:Tm:= .mk 3 [115,105,103,110] 0 false [Zu2,xt2]
def ZrV:Tm:= .mk 2 [110,111,100,101] 5 true []
def Zvh:Tm:= .mk 3 [112,97,105,114] 0 false [Zqs,Zlu]
def Zpa:Tm:= .mk 3 [104,97,115,104] 0 false [Zvh]
def ZtO:Tm:= .mk 3 [112,97,105,114] 0 false [ZoN,Zpa]
def Zvf:Tm:= .mk 3 [112,97,105,114] 0 false [ZrV,ZtO]
def Zls:Tm:= .mk 3 [104,97,115,104] 0 false [Zvf]
def ZsS:Tm:= .mk 2 [110,50] 4 true []
def Ztf:Tm:= .mk 3 [112,97,105,114] 0 false [ZsS,Zls]
def ZuC:Tm:= .mk 3 [112,97,105,114] 0 false [xt5,Ztf]
def Zox:Tm:= .mk 3 [115,105,103,110] 0 false [ZuC,xt2]
def Zq9:Tm:= .mk 3 [112,107] 0 false [xt2]
def xc2:Cred:=⟨[97,46,111,114,103],ZjQ,false,true,[],true,[],2,0,0⟩
def Zto:Tm:= .mk 3 [112,97,105,114] 0 false [xt6,xt6]
def ZsZ:Tm:= .mk 3 [112,97,105,114] 0 false [ZsS,Zto]
def ZuL:Tm:= .mk 3 [112,97,105,114] 0 false [ZmL,ZsZ]
def Ztq:Tm:= .mk 3 [112,97,105,114] 0 false [ZmL,ZuL]
def Zui:Tm:= .mk 3 [112,97,105,114] 0 false [Zra,Ztq]
def Zuv:Tm:= .mk 3 [112,97,105,114] 0 false [ZjQ,Zui]
def ZvG:Tm:= .mk 3 [112,97,105,114] 0 false [Zsx,Zuv]
def ZuK:Tm:= .mk 3 [112,97,105,114] 0 false [ZpI,ZvG]
def Zno:Tm:= .mk 3 [115,105,103,110] 0 false [ZuK,xt2]
def ZvJ:Tm:= .mk 3 [112,97,105,114] 0 false [Zqs,Zno]
def Zt7:Tm:= .mk 3 [104,97,115,104] 0 false [ZvJ]
def ZuW:Tm:= .mk 3 [112,97,105,114] 0 false [Zls,Zt7]
def ZuU:Tm:= .mk 3 [112,97,105,114] 0 false [ZrV,ZuW]
def Zph:Tm:= .mk 3 [104,97,115,104] 0 false [ZuU]
def Zue:Tm:= .mk 2 [110,51] 4 true []
def Zvx:Tm:= .mk 3 [112,97,105,114] 0 false [Zue,Zph]
def Zuf:Tm:= .mk 3 [112,97,105,114] 0 false [xt5,Zvx]
def Zvr:Tm:= .mk 3 [115,105,103,110] 0 false [Zuf,xt2]
def xf0:Z7:=Wr xt0 0 (by kernel_rfl) (by kernel_rfl)
def xf1:Z7:=WX xt2 xt2 0 (by kernel_rfl) (by kernel_rfl)
def xf2:Z7:=Wr xt4 0 (by kernel_rfl) (by kernel_rfl)
def xf3:Z7:=Zb1 xt4 xt4 (by kernel_rfl) (by kernel_rfl)
def xf4:Z7:=Wr xt2 0 (by kernel_rfl) (by kernel_rfl)
def xf5:Z7:=Zpf 0 [48] (by decide) (by kernel_rfl)
def xf6:Z7:=Zb1 xt2 xt2 (by kernel_rfl) (by kernel_rfl)
def xf7:Z7:=Wr xt9 0 (by kernel_rfl) (by kernel_rfl)
def xf8:Z7:=Zjz xc0 0 (by kernel_rfl) (by kernel_rfl)
def xf9:Z7:=ZhK xc0 xt2 ZkI 0 (by kernel_rfl) (by kernel_rfl)
def Zuo:Z7:=Qv xt2 xt2 (by kernel_rfl) (by kernel_rfl)
def Ztr:Z7:=Qv ZjQ ZjQ (by kernel_rfl) (by kernel_rfl)
def Zti:Z7:=Wr ZkI 0 (by kernel_rfl) (by kernel_rfl)
def ZtE:Z7:=Wr ZoN 0 (by kernel_rfl) (by kernel_rfl)
def ZuP:Z7:=Zb1 ZoN ZoN (by kernel_rfl) (by kernel_rfl)
def Ztc:Z7:=Zpf 1 [49] (by decide) (by kernel_rfl)
def Zvm:Z7:=Wr Zux 0 (by kernel_rfl) (by kernel_rfl)
def ZtT:Z7:=Zl5 ZkI xc0 0 (by kernel_rfl) (by kernel_rfl)
def ZtU:Z7:=WX ZkI ZkI 0 (by kernel_rfl) (by kernel_rfl)
def Zum:Z7:=WX ZjQ ZjQ 0 (by kernel_rfl) (by kernel_rfl)
def Ztp:Z7:=Zjz xc1 0 (by kernel_rfl) (by kernel_rfl)
def Zt5:Z7:=ZhK xc1 xt2 Zlu 0 (by kernel_rfl) (by kernel_rfl)
def Zs1:Z7:=Qv ZkI ZkI (by kernel_rfl) (by kernel_rfl)
def Zuy:Z7:=Qv Znw Znw (by kernel_rfl) (by kernel_rfl)
def ZvN:Z7:=Wr Zlu 0 (by kernel_rfl) (by kernel_rfl)
def Zul:Z7:=Wr Zls 0 (by kernel_rfl) (by kernel_rfl)
def ZuH:Z7:=Zb1 Zls Zls (by kernel_rfl) (by kernel_rfl)
def ZvI:Z7:=Zpf 2 [50] (by decide) (by kernel_rfl)
def ZtF:Z7:=Wr Zox 0 (by kernel_rfl) (by kernel_rfl)
def ZsU:Z7:=Zl5 Zlu xc1 0 (by kernel_rfl) (by kernel_rfl)
def Zvj:Z7:=WX Zlu Zlu 0 (by kernel_rfl) (by kernel_rfl)
def ZuX:Z7:=WX Znw Znw 0 (by kernel_rfl) (by kernel_rfl)
def ZuQ:Z7:=Zb1 Zpa Zpa (by kernel_rfl) (by kernel_rfl)
def ZsX:Z7:=Wr Zq9 0 (by kernel_rfl) (by kernel_rfl)
def Zte:Z7:=WX Zox Zox 0 (by kernel_rfl) (by kernel_rfl)
def Zu7:Z7:=Zoq Zls 2 0 ZkI false [Zpa] true (by kernel_rfl) (by kernel_rfl) ⟨by kernel_rfl,by kernel_rfl⟩
def Zvq:Z7:=Qv Zq9 Zq9 (by kernel_rfl) (by kernel_rfl)
def ZvT:Z7:=Qv Zls Zls (by kernel_rfl) (by kernel_rfl)
def Zs4:Z7:=Qv Zox Zox (by kernel_rfl) (by kernel_rfl)
def Zty:Z7:=ZpP ZjQ ZjQ true (by kernel_rfl) (by kernel_rfl)
def Zvz:Z7:=ZhK xc2 xt2 Zno 0 (by kernel_rfl) (by kernel_rfl)
def ZvC:Z7:=Qv Zlu Zlu (by kernel_rfl) (by kernel_rfl)
def ZtJ:Z7:=Wr Zno 0 (by kernel_rfl) (by kernel_rfl)
def Zvw:Z7:=Wr Zph 0 (by kernel_rfl) (by kernel_rfl)
def Zud:Z7:=Zb1 Zph Zph (by kernel_rfl) (by kernel_rfl)
def Zs6:Z7:=Zpf 3 [51] (by decide) (by kernel_rfl)
def Zug:Z7:=Wr Zvr 0 (by kernel_rfl) (by kernel_rfl)
def ZtS:Z7:=Zl5 Zno xc2 0 (by kernel_rfl) (by kernel_rfl)
def ZvK:Z7:=WX Zno Zno 0 (by kernel_rfl) (by kernel_rfl)
def factsP:List Z7:=[xf0,xf1,xf2,xf3,xf4,xf5,xf6,xf7,xf8,xf9,Zuo,Ztr,Zti,ZtE,ZuP,Ztc,Zvm,ZtT,ZtU,Zum,Ztp,Zt5,Zs1,Zuy,ZvN,Zul,ZuH,ZvI,ZtF,ZsU,Zvj,ZuX,ZuQ,ZsX,Zte,Zu7,Zvq,ZvT,Zs4,Zty,Zvz,ZvC,ZtJ,Zvw,Zud,Zs6,Zug,ZtS,ZvK]
def Zav:List Fact:=factsP.map Subtype.val
theorem Zha:∀ x∈Zav,FactOk E0 Tryz.prog x:=fun x hx=>by
 obtain ⟨p,_,rfl⟩:=List.mem_map.1 hx
 exact p.2
open Go.Proofs
set_option maxRecDepth 100000
open Go.Proofs
set_option maxRecDepth 100000
theorem VR:∀ (l:List Tm) (n:Int),Zlf l n=true→∀ t,t∈l→(t.size:Int)≤n
 | [],_,_,t,ht=>absurd ht (by simp)
 | a :: r, n, h, t, ht => by
   simp only [Zlf] at h
   split at h
   · cases h
   · rename_i hb
     have:=a.budget_eq n (by omega)
     rcases List.mem_cons.1 ht with rfl|ht
     · omega
     · have := VR r _ h t ht
       omega
open Go.Proofs
set_option maxRecDepth 100000
theorem ZeW:Qs (E7.knowsG Zav) 100 60 ⟨7,[],.bool true⟩=true:=by kernel_rfl
theorem ZiP:∀ x∈Zav,FactOk E7 Tryz.prog x:=fun x hx=>(Zha x hx).env rfl
theorem Zvs:FOk E7 Tryz.prog:=fun f fn c h hb=>fOk f fn c h hb
theorem Zu1:YD E7 Tryz.prog E7.Z:=ZgU (E:=E0) (E':=E7) rfl rfl rfl (fun h=>h) (fun f h=>by
 simp only [E7,Bool.or_eq_false_iff] at h
 exact h.1) zOk
theorem ZaD:∀ H,CallOk E0 Tryz.prog 7 [] H (.bool true) H:=fun H=>by
 have h:FactOk (E7.knowsG Zav) Tryz.prog ⟨7,[],.bool true⟩:=Xn (E:=E7.knowsG Zav) ⟨WB.1⟩ follows (Zkq Zvs) (Zdm ZiP Zu1) ZeW
 exact ZqF ((h H).env rfl)
open Go.Proofs
set_option maxRecDepth 100000
theorem Zcg {S:Nat} (h1:1≤S):Zhd S .zero∧Tm.zero.Ok∧Tm.zero.size≤S:=by
 have hz:Tm.zero.Ok∧Tm.zero.size≤S:=⟨Tm.ok_zero,by simpa [Tm.zero,Tm.size,Zz] using h1⟩
 exact ⟨⟨hz,hz,hz⟩,hz⟩
theorem ZmS {c:Rd} {a:An} (hc:Zhd 2000 c) (ha:AnSm a 2000):Zhd 2000 (Zhk c a).1∧(Zhk c a).2.1.Ok∧(Zhk c a).2.1.size≤2000:=by
 have hz:=Zcg (S:=2000) (by omega)
 obtain ⟨r1,r2, -⟩:=WW ha.ok.e ha.e (by omega)
 unfold Zhk
 split; · exact hz
 split; · exact hz
 split; · exact hz
 split; · exact hz
 split; · exact hz
 have k:∀ {t:Tm},t.Ok→t.size≤2000→t.cl.Ok∧t.cl.size≤2000:=fun h1 h2=>⟨Vi h1,by rw [YK];exact h2⟩
 exact ⟨⟨k hc.1.1 hc.1.2,k ha.ok.h ha.h,k ha.ok.s ha.s⟩,k r1 r2⟩
theorem Zhz {l:List Tm} {n:Int} (h:QL l n 900=true):∀ t,t∈l→t.size≤2000:=fun t ht=>by
 unfold QL at h
 split at h
 · cases h
 · have := VR l 900 h t ht
   omega
theorem Zsz {x y z x' y' z':Tm} (h1:x.cl=x'.cl) (h2:y.cl=y'.cl) (h3:z.cl=z'.cl):ZeI [x,y,z] [x',y',z']=true:=by
 simp only [ZeI]
 rw [decide_eq_true (Z0.2 h1),decide_eq_true (Z0.2 h2),decide_eq_true (Z0.2 h3)]
 rfl
theorem Zjc {a b:Int} (h:a=b):ZV E0 .eql 32 (.int .i64 a) (.int .i64 b)=some (.bool true):=by
 show some (PV.bool (a==b))=_
 rw [h,beq_self_eq_true]
open Go.Proofs Go.Proofs.YtkaocdljkonfaaaGreatDoor Go.RowKit
set_option maxRecDepth 100000
theorem ZoQ: "*" ++ "errors.errorString" = "*errors.errorString" :=by decide
theorem ZlF (u:TypeId) (h:Tryz.prog.typeName? 3 u=some "*errors.errorString"):u=247:=
 typeName_ptr_named (nm:= "errors.errorString") (by rw [ZoQ];kernel_rfl) (by kernel_rfl) (by decide) u (by rw [ZoQ];exact h)
theorem ZrH {W:World} (h:laidMetH Tryz.prog Rows.keyserviceIncludedRow.laid W):GOk E0 (wG W):=by
 have h:laidMet Tryz.prog Rows.keyserviceIncludedRow.laid W:=h
 have h2:=h.tail.tail
 have hT:Lib.TabIs Tryz.prog W "internal/strconv.uint64pow10" .u64 [1,10,100,1000,10000,100000,1000000,10000000,100000000,1000000000,10000000000,100000000000,1000000000000,10000000000000,100000000000000,1000000000000000,10000000000000000,100000000000000000,1000000000000000000,10000000000000000000]:=
  Lib.tabIs_of_head (g:=1) (t:=216) (e:=195) (n:=20) (by kernel_rfl) (by kernel_rfl) (by kernel_rfl) (by kernel_rfl) (by kernel_rfl) (by kernel_rfl) h2
 have h4:=h2.tail.tail
 obtain ⟨a1,s1,v1, -⟩:=laid_sentinel (g:=3) (ti:=163) h4 (by kernel_rfl) (by kernel_rfl) Tryz.underlying163 ZlF Tryz.underlying247 Tryz.underlying249 rfl rfl Tryz.underlying9 (by kernel_rfl) (by kernel_rfl)
 obtain ⟨a2,s2,v2, -⟩:=laid_sentinel (g:=2) (ti:=163) h4.tail (by kernel_rfl) (by kernel_rfl) Tryz.underlying163 ZlF Tryz.underlying247 Tryz.underlying249 rfl rfl Tryz.underlying9 (by kernel_rfl) (by kernel_rfl)
 refine ⟨fun k cs' hk=>?_,fun h=>by simp [wG] at h,fun k hk=>?_⟩
 · simp only [E0] at hk
   split at hk
   · rename_i hb
     obtain rfl:=Nat.eq_of_beq_eq_true hb
     cases hk
     refine .fptr ZdW 0 1 0 (fun j=>(W.cell? ⟨1,j,none⟩).getD undef) (fun j hj=>?_) (fun j hj=>?_)
     · have hl : j < 20 := by simpa [ZdW] using hj
       show wS W 1 (0+j)=_
       simp only [wS,Nat.zero_add]
       rw [hT.cell (by kernel_rfl) j (by simpa using hl)]
       rfl
     · have hl : j < 20 := by simpa [ZdW] using hj
       rw [hT.cell (by kernel_rfl) j (by simpa using hl)]
       match j,hl with
       | 0,_|1,_|2,_|3,_|4,_|5,_|6,_|7,_|8,_|9,_|10,_|11,_|12,_|13,_|14,_|15,_|16,_|17,_|18,_|19,_=>exact .int _ _
       | n+20,h=>exact absurd h (by omega)
   · cases hk
 · have hk : k = 2 ∨ k = 3 := by
     simp only [E0,List.any_cons,List.any_nil,Bool.or_false,Bool.or_eq_true] at hk
     rcases hk with e|e
     · exact .inl (Nat.eq_of_beq_eq_true e)
     · exact .inr (Nat.eq_of_beq_eq_true e)
   rcases hk with rfl|rfl
   · have c:=World.var?_cell (show Tryz.prog.globalNamed "strconv.ErrSyntax" = some 2 by kernel_rfl) v2 0
     exact ⟨_,_,c⟩
   · have c:=World.var?_cell (show Tryz.prog.globalNamed "strconv.ErrRange" = some 3 by kernel_rfl) v1 0
     exact ⟨_,_,c⟩
end Go.Vm.Seat
