/-
  A term of a symbol, as the second text makes it; decryption and opening.
-/
import Derived.Test.YtnnfkocifnflgaaGreatDoorNv
set_option maxHeartbeats 0
set_option maxRecDepth 100000
namespace Go.Vm.Seat
variable {L:List Tm}
open Go.Proofs
theorem QY {l:List Tm} (h:l≠ []) (b:Bool):slV b 4 (Za l)= .sl .none 4 (Za l):=by
 cases l with
 |nil=>exact absurd rfl h
 | cons a r =>
   obtain ⟨k,nm,s,b',kz⟩:=a
   exact Zp _ _ _ _
theorem ZkL (hL:L≠ []) (hl:L.length≤1000000) (H:Heap):ZO E0 29 29 (.sl .full 4 []) (.sl .none 4 (Za L)) H=some (.own H.bx.length 4 0 L.length,H.push (.cells 4 (Za L))):=by
 have he:=Z7 (s:= .sl .full 4 []) YX (ElV.slV true 4 (Za L)) (Zr _) rfl rfl H
 rw [QY hL] at he
 have hn:=Zb L
 cases hE:Za L with
 |nil=>rw [hE] at hn;exact absurd (List.length_eq_zero_iff.1 hn.symm) hL
 | cons y yr =>
   rw [hE] at hn he
   simp only [ZO,he,YQ,List.nil_append]
   rw [if_pos (ZX (by rw [hn];simp;omega) (by decide))]
   simp only [List.length_nil,Nat.zero_add]
   rw [hn]
theorem ZjT (hL:L≠ []) (hl:L.length≤1000000):CallOk E0 Tryz.prog 16 [.sl .none 4 (Za L)] hNil (.own 0 4 0 L.length) ⟨[.cells 4 (Za L)],0,[],0⟩:=by
 have hap:=ZkL hL hl hNil
 refine Yy (own:=fun d=>Nat.beq d 7) tOk fe16.ok ?_
 refine Wp.seq ?_
 repeat' first|refine Js ?_|refine JA ?_|refine Jt ?_|refine Jb ?_ ?_|refine Jo ?_|intro hb
 refine ZlF rfl rfl rfl rfl rfl hap ?_
 repeat' first|refine Js ?_|refine JA ?_|refine Jt ?_|refine Jb ?_ ?_|refine Jo ?_|intro hb
 all_goals exact RetE.ret rfl rfl rfl
theorem ZiO (hL:L≠ []) (hl:L.length≤1000000) (H:Heap):CallOk E0 Tryz.prog 16 [.sl .none 4 (Za L)] H (.own H.bx.length 4 0 L.length) {H with bx:=H.bx++ [.cells 4 (Za L)]}:=
 (ZjT hL hl).slot (L:=[]) (k:=0) (B:= .cells 4 (Za L)) (j:=0) (.inl rfl) (fun g g0 l hS _ x=>ZbR hS rfl x) (.inr ⟨4,Za L,[],rfl,by simp,XR L⟩) (fun g1 g2 v hS hs x=>VD hs.1 hs.2 x)
theorem ZiN:∀ H,CallOk E0 Tryz.prog 16 [.nils] H .nils H:=by
 refine Jw tOk fe16.ok rfl ?_
 repeat' first|refine Js ?_|refine JA ?_|refine Jt ?_|refine Jb ?_ ?_|refine Jo ?_|intro hb
 all_goals rfl
theorem Zgd:∀ H,CallOk E0 Tryz.prog 16 [.sl .none 4 []] H (.sl .none 4 []) H:=by
 have hap:ZN E0 29 29 (.sl .full 4 []) (.sl .none 4 []) hNil=some (.sl .full 4 [],hNil):=by
  have he:=Z7 (s:= .sl .full 4 []) YX (ElV.slV false 4 (Za [])) (Zr _) rfl rfl hNil
  rw [show slV false 4 (Za [])= .sl .none 4 [] from Zq 4] at he
  simp only [ZN,he]
  rfl
 refine Jw tOk fe16.ok rfl ?_
 repeat' first|refine Js ?_|refine JA ?_|refine Jt ?_|refine Jb ?_ ?_|refine Jo ?_|intro hb
 all_goals rfl
theorem Zhg {k:Int} {nm:Bs} {s:Int} {A Bx:Box}:frz3 0 ⟨[A,Bx,.cells 4 (Za L)],0,[],0⟩ (.agg [.int .i64 k,.str nm,.int .i64 s,.own 2 4 0 L.length])=some (.agg [.int .i64 k,.str nm,.int .i64 s,.sl .none 4 (Za L)]):=by
 have h:frzC 0 ⟨[A,Bx,.cells 4 (Za L)],0,[],0⟩ (.own 2 4 0 L.length)=some (.sl .none 4 (Za L)):=by
  have hn:nth ([A,Bx,.cells 4 (Za L)]:List Box) 2=some (.cells 4 (Za L)):=rfl
  simp only [frzC,Nat.not_lt_zero,if_false,hn]
  rw [if_pos ⟨trivial,by rw [Zb];omega⟩,List.drop_zero, ← Zb L,List.take_length,XR]
 rw [UN]
 simp only [X4,h]
 rfl
theorem ZlY {t:Tm} (ht:t.Ok):t.size≤100000→∀ H,CallOk E0 Tryz.prog 116 [.agg t.cells] H (.agg t.cells) H:=by
 induction ht with
 | @mk k nm s b kz hk hs hn hl hok ih=>
 intro hsz
 simp only [Tm.size] at hsz
 have hkl:=Ya kz
 simp only [Tm.cells]
 refine Jw tOk fe116.ok (ZS _ _ _ _ _ _ _) ?_
 by_cases hne:kz= []
 · subst hne
   clear ih
   have hc1:=ZiN
   have hc2:=Zgd
   cases b<;>simp only [Za,Zk,Zq]
   all_goals
    repeat' first|refine Jc (hc1 _) ?_|refine Jc (hc2 _) ?_|refine Ji ?_|refine JJ ?_|refine Jl ?_|refine Jx ?_|(apply qT (ty:=0);rfl;rfl;rfl)|(apply qF (ty:=0);rfl;rfl;rfl)|refine Jz ?_ ?_|refine Jo ?_|refine Jd (hc1 _) ?_|refine Jd (hc2 _) ?_|refine JD ?_|refine JK ?_|(apply dLn;rfl;rfl;rfl;rfl;rfl)|refine JI ?_|(apply dT (ty:=0);rfl;rfl;rfl;rfl)|(apply dF (ty:=0);rfl;rfl;rfl;rfl)|(apply dB (ty:=0);rfl;rfl;rfl;rfl)|refine Jh ?_|(apply Wp.drawS tOk follows;kernel_rfl;rfl)|intro hb
    refine Wp.loop ?_
    repeat' first|refine Ji ?_|refine JJ ?_|refine Jl ?_|refine Jx ?_|(apply qT (ty:=0);rfl;rfl;rfl)|(apply qF (ty:=0);rfl;rfl;rfl)|refine Jz ?_ ?_|refine Jo ?_|refine JD ?_|refine JK ?_|(apply dLn;rfl;rfl;rfl;rfl;rfl)|refine JI ?_|(apply dT (ty:=0);rfl;rfl;rfl;rfl)|(apply dF (ty:=0);rfl;rfl;rfl;rfl)|(apply dB (ty:=0);rfl;rfl;rfl;rfl)|refine Jh ?_|(apply Wp.drawS tOk follows;kernel_rfl;rfl)|intro hb
    refine LoopQ.exit ?_
    repeat' first|refine Ji ?_|refine JJ ?_|refine Jl ?_|refine Jx ?_|(apply qT (ty:=0);rfl;rfl;rfl)|(apply qF (ty:=0);rfl;rfl;rfl)|refine Jz ?_ ?_|refine Jo ?_|refine JD ?_|refine JK ?_|(apply dLn;rfl;rfl;rfl;rfl;rfl)|refine JI ?_|(apply dT (ty:=0);rfl;rfl;rfl;rfl)|(apply dF (ty:=0);rfl;rfl;rfl;rfl)|(apply dB (ty:=0);rfl;rfl;rfl;rfl)|refine Jh ?_|(apply Wp.drawS tOk follows;kernel_rfl;rfl)|intro hb
    all_goals rfl
 · have hcl := ZiO hne (by omega) ⟨[.cells 4 [[.int .i64 k, .str nm, .int .i64 s, .sl .none 4 (Za kz)]], .cells 4 [zcT]], 0, [], 0⟩
   rw [QY hne]
   repeat' first|refine Jc hcl ?_|refine Ji ?_|refine JJ ?_|refine Jl ?_|refine Jx ?_|(apply qT (ty:=0);rfl;rfl;rfl)|(apply qF (ty:=0);rfl;rfl;rfl)|refine Jz ?_ ?_|refine Jo ?_|refine Jd hcl ?_|refine JD ?_|refine JK ?_|(apply dLn;rfl;rfl;rfl;rfl;rfl)|refine JI ?_|(apply dT (ty:=0);rfl;rfl;rfl;rfl)|(apply dF (ty:=0);rfl;rfl;rfl;rfl)|(apply dB (ty:=0);rfl;rfl;rfl;rfl)|refine Jh ?_|(apply Wp.drawS tOk follows;kernel_rfl;rfl)|intro hb
   refine Wp.while (fun m tm H => ∃ (i : Nat) (base : TM), i + m = kz.length ∧
     tm=ovr base [(1,.ptr 0 4 0 0),(2,.ptr 1 4 0 0),(10,.own 2 4 0 kz.length),(11,.int .i64 (kz.length:Int)),(12,.int .i64 (i:Int))]∧H=⟨[.cells 4 [[.int .i64 k,.str nm,.int .i64 s,.own 2 4 0 kz.length]],.cells 4 [zcT],.cells 4 (Za kz)],0,[],0⟩)
    (fun m tm H hI=>Wp.drop ?_) kz.length _ _ ⟨0,_,by omega,Zf ⟨rfl,rfl,rfl,rfl,rfl,trivial⟩,rfl⟩
   obtain ⟨i,base,hi,rfl,rfl⟩:=hI
   clear hcl
   by_cases hlt:i<kz.length
   · obtain ⟨t', ht'⟩ : ∃ t', kz[i]? = some t' := ⟨kz[i], by simp⟩
     have hm:t'∈kz:=List.mem_of_getElem? ht'
     have hle:=ZJ hm
     have hc:=ih t' hm (by omega)
     have hlx:=Zt (i:Int) (kz.length:Int)
     rw [decide_eq_true (by omega)] at hlx
     have hia:=Zlb (id:=2) (ix:=0) hlt
     have hld:YB E0 34 (.ptr 2 4 (0+i) 0) ⟨[.cells 4 [[.int .i64 k,.str nm,.int .i64 s,.own 2 4 0 kz.length]],.cells 4 [zcT],.cells 4 (Za kz)],0,[],0⟩=some (.agg t'.cells):=by
      rw [Nat.zero_add]
      exact ZmE rfl ht'
     have hwr:Heap.wr ⟨[.cells 4 [[.int .i64 k,.str nm,.int .i64 s,.own 2 4 0 kz.length]],.cells 4 [zcT],.cells 4 (Za kz),.cells 4 [t'.cells]],0,[],0⟩ (.ptr 2 4 (0+i) 0) t'.cells=some ⟨[.cells 4 [[.int .i64 k,.str nm,.int .i64 s,.own 2 4 0 kz.length]],.cells 4 [zcT],.cells 4 (Za kz),.cells 4 [t'.cells]],0,[],0⟩:=by
      rw [Nat.zero_add,Zlf (L:=kz) rfl ht' (Nat.zero_le _)]
      have e:kz.set i t'=kz:=List.ext_getElem? fun j=>by
       rw [List.getElem?_set]
       split
       · rename_i h
         subst h
         first
          | rw [if_pos hlt,ht']
          | rw [ht']
          | simp [hlt,ht']
       · rfl
      rw [e]
      rfl
     have hBU:Yb 3 (.cells 4 (Za kz))=true:=by
      have:=ZdR 3 kz 0
      simpa using this
     obtain ⟨k',nm',s',b',kz'⟩:=t'
     simp only [Tm.cells] at hc hld hwr
     clear ih
     repeat' first|refine Jc (hc _) ?_|refine Ji ?_|refine JJ ?_|(apply qLe;rfl;rfl;rfl;assumption;exact IsV.any _)|(apply qLd;rfl;rfl;rfl;assumption;exact IsV.any _)|refine Jl ?_|refine Jx ?_|(apply qT (ty:=0);rfl;rfl;rfl)|(apply qF (ty:=0);rfl;rfl;rfl)|refine Jz ?_ ?_|refine Jo ?_|refine Jd (hc _) ?_|refine JD ?_|refine JK ?_|(apply dLe;rfl;rfl;rfl;assumption;exact IsV.any _;rfl)|(apply dLd;rfl;rfl;rfl;assumption;exact IsV.any _;(first|rfl|(show Nat.blt _ _=true;first|assumption|(simp [Nat.blt];done))))|(apply dLn;rfl;rfl;rfl;rfl;rfl)|refine JI ?_|(apply dT (ty:=0);rfl;rfl;rfl;rfl)|(apply dF (ty:=0);rfl;rfl;rfl;rfl)|(apply dB (ty:=0);rfl;rfl;rfl;rfl)|refine Jh ?_|(apply Wp.drawS tOk follows;kernel_rfl;rfl)|intro hb
     refine DropQ.go [(1,.ptr 0 4 0 0),(2,.ptr 1 4 0 0),(10,.own 2 4 0 kz.length),(11,.int .i64 (kz.length:Int)),(12,.int .i64 ((i+1:Nat):Int))] ?_ rfl rfl ?_ ?_
     · exact ⟨rfl,rfl,rfl,rfl,Ze (Zc (n:=i+1) (by omega)),trivial⟩
     · show (Yb 3 _ && (Yb 3 _ && (Yb 3 _ && true))) = true
       rw [hBU]
       rfl
     · exact LoopI.go (m-1) (by omega) ⟨i+1,_,by omega,rfl,rfl⟩
   · have e : i = kz.length := by omega
     subst e
     clear ih
     have hlx:=Zt (kz.length:Int) (kz.length:Int)
     rw [decide_eq_false (by omega)] at hlx
     repeat' first|refine Ji ?_|refine JJ ?_|refine Jl ?_|refine Jx ?_|(apply qT (ty:=0);rfl;rfl;rfl)|(apply qF (ty:=0);rfl;rfl;rfl)|refine Jz ?_ ?_|refine Jo ?_|refine JD ?_|refine JK ?_|(apply dLn;rfl;rfl;rfl;rfl;rfl)|refine JI ?_|(apply dT (ty:=0);rfl;rfl;rfl;rfl)|(apply dF (ty:=0);rfl;rfl;rfl;rfl)|(apply dB (ty:=0);rfl;rfl;rfl;rfl)|refine Jh ?_|(apply Wp.drawS tOk follows;kernel_rfl;rfl)|intro hb
     exact Zhg
end Go.Vm.Seat
namespace Go.Vm
variable {l:List Pw} {t:Tm} {B n:Int}
theorem Za7 (n:Nat):arB W7 n= !decide (n<2):=by simp [arB,W7,WJ,Vn]
theorem ZaI (n:Nat):arB WJ n=decide (n=1):=by simp [arB,W7,WJ,Vn]
theorem Za0 (n:Nat):arB Vn n=decide (n=0):=by simp [arB,W7,WJ,Vn]
theorem XU {k:Int} {nm:Bs} (h:Zau k nm=true):k=3∧(nm=W7∨nm=WJ∨nm=Vn):=by
 simpa [Zau] using h
theorem ZgR {l:List Tm} {i:Nat} (h:l[i]? = some t):ZcR (l.drop i)=(t.ari&&ZcR (l.drop (i+1))):=by
 rw [ZL h];rfl
theorem Zaq:∀ l:List Tm,ZcR l=true↔∀ x,x∈l→x.ari=true
 | []=>by simp [ZcR]
 |t::r=>by simp [ZcR,Zaq r]
mutual
def Tm.colFl:Tm→Bool→Bool
 | .mk k nm _ _ kz,b=>if Zau k nm=true then Uj kz b else true
def Uj:List Tm→Bool→Bool
 | [],b=>b
 |t::r,b=>Uj r (t.colFl b)
end
theorem UT:∀ {l:List Tm} {i:Nat} {t:Tm} (b:Bool),l[i]? = some t→Uj (l.take (i+1)) b=t.colFl (Uj (l.take i) b)
 | [],i,t,b,h=>by simp at h
 | x :: r, 0, t, b, h => by
   have e:x=t:=by simpa using h
   subst e
   simp only [List.take_succ_cons,List.take_zero,Uj]
 | x :: r, i + 1, t, b, h => by
   simp only [List.take_succ_cons,Uj]
   exact UT _ (by simpa using h)
theorem Q7:∀ {l:List Tm} {i:Nat} {t:Tm} (n:Int) (o:List Pw),l[i]? = some t→VR (l.take (i+1)) n o=t.colR n (VR (l.take i) n o)
 | [],i,t,n,o,h=>by simp at h
 | x :: r, 0, t, n, o, h => by
   have e:x=t:=by simpa using h
   subst e
   simp only [List.take_succ_cons,List.take_zero,VR]
 | x :: r, i + 1, t, n, o, h => by
   simp only [List.take_succ_cons,VR]
   exact Q7 n _ (by simpa using h)
theorem sgn {p:Prop} [Decidable p] (h: -1≤n∧n≤1): -1≤(if p then -n else n)∧(if p then -n else n)≤1:=by split<;>omega
mutual
theorem ZjC:∀ (t:Tm) (n:Int) (l l':List Pw) (B:Int),0≤B→(-1≤n∧n≤1)→t.Ok→t.size≤100000→PwB B l→t.col n l=some l'→PwB (B+t.size) l'
 | .mk k nm s b kz, n, l, l', B, hB, hn, ht, hs, hl, h => by
   rw [Tm.col] at h
   rw [Tm.size] at hs ⊢
   split at h
   · split at h
     · exact (ZgT kz _ l l' B hB (sgn hn) (fun x hx=>ht.kid hx) (by omega) hl h).mono (by omega)
     · exact absurd h (by simp)
   · cases h
     exact (hl.ins (c:=1) ⟨ht,by rw [Tm.size];exact hs⟩ hn hB (by omega)).mono (by omega)
theorem ZgT:∀ (ts:List Tm) (n:Int) (l l':List Pw) (B:Int),0≤B→(-1≤n∧n≤1)→(∀ x,x∈ts→x.Ok)→Zl ts≤100000→PwB B l→colL ts n l=some l'→PwB (B+Zl ts) l'
 | [], n, l, l', B, _, _, _, _, hl, h => by
   rw [colL] at h
   cases h
   rw [Zl]
   exact hl.mono (by omega)
 | t :: r, n, l, l', B, hB, hn, ht, hs, hl, h => by
   rw [colL] at h
   rw [Zl] at hs ⊢
   cases e:t.col n l with
   | none=>rw [e] at h;exact absurd h (by simp)
   | some m =>
     rw [e] at h
     have h1:=ZjC t n l m B hB hn (ht t List.mem_cons_self) (by omega) hl e
     exact (ZgT r n m l' (B+t.size) (by omega) hn (fun x hx=>ht x (List.mem_cons_of_mem _ hx)) (by omega) h1 h).mono (by omega)
end
theorem ZcN {ts : List Tm} (ha : ZcR ts = true) (hA : W3 l) (hn : n = 1 ∨ n = -1) (hB : 0 ≤ B) (ht : ∀ x, x ∈ ts → x.Ok) (hs : Zl ts ≤ 100000) (hl : PwB B l) :
  W3 (VR ts n l)∧PwB (B+Zl ts) (VR ts n l)∧(VR ts n l).length≤l.length+Zl ts:=by
 obtain ⟨h1,h2⟩:=(U1 ts n l hA (by omega)).1 ha
 exact ⟨h2,ZgT ts n l _ B hB (by omega) ht hs hl h1,ZaE ts n l _ h1⟩
theorem ZeI (ha : t.ari = true) (hA : W3 l) (hn : n = 1 ∨ n = -1) (hB : 0 ≤ B) (ht : t.Ok) (hs : t.size ≤ 100000) (hl : PwB B l) :
  W3 (t.colR n l)∧PwB (B+t.size) (t.colR n l)∧(t.colR n l).length≤l.length+t.size:=by
 obtain ⟨h1,h2⟩:=(UE t n l hA (by omega)).1 ha
 exact ⟨h2,ZjC t n l _ B hB (by omega) ht hs hl h1,Zc2 t n l _ h1⟩
end Go.Vm
namespace Go.Vm.Seat
open Go.Proofs
theorem ZoK {t:Tm} (ht:t.Ok):t.size≤100000→∀ H,CallOk E0 Tryz.prog 161 [.agg t.cells] H (.bool t.ari) H:=by
 induction ht with
 | @mk k nm s b kz hk hs hn hl hok ih=>
 intro hsz
 simp only [Tm.size] at hsz
 have hsp:=ZmM (.mk k nm s b kz)
 have hkl:=Ya kz
 rw [Tm.ari]
 simp only [Tm.sym,Tm.cells] at hsp ⊢
 refine Jw tOk fe161.ok rfl ?_
 by_cases he:Zau k nm=true
 · rw [if_pos he]
   rw [he] at hsp
   have hlen:=Zb kz
   have key:∀ w:Bs,nm=w→arB nm kz.length=arB w kz.length:=fun w h=>by rw [h]
   obtain ⟨rfl,hnm⟩:=XU he
   by_cases har:arB nm kz.length=true
   · rw [if_pos har]
     rcases hnm with rfl|rfl|rfl
     all_goals
      simp only [Za7,ZaI,Za0,Bool.not_eq_true',decide_eq_false_iff_not,decide_eq_true_eq] at har
      simp only [W7,WJ,Vn] at hsp ⊢
      repeat' first|refine Jk ?_|refine Jc (hsp _) ?_|refine Ji ?_|refine JJ ?_|refine Jl ?_|refine Jx ?_|refine Jt ?_|refine Jb ?_ ?_|refine Jo ?_|intro hb
      all_goals try first
       | (exfalso;simp at hb<;>omega)
       | (exfalso;rw [hlen] at hb;revert hb;simp only [bne_iff_ne,ne_eq];omega)
      refine Wp.while (fun m tm H => ∃ (i : Nat) (base : TM), i + m = kz.length ∧ ZcR kz = ZcR (kz.drop i) ∧
        tm=ovr base [(1,.ptr 0 4 0 0),(3,.int .i64 (kz.length:Int)),(4,.int .i64 (i:Int))]∧H=⟨[.cells 4 [[.int .i64 3,.str _,.int .i64 s,slV b 4 (Za kz)]]],0,[],0⟩)
       (fun m tm H hI=>?_) kz.length _ _ ⟨0,_,by omega,by rw [List.drop_zero],Zf ⟨rfl,Ze (by rw [Zb]),rfl,trivial⟩,rfl⟩
      obtain ⟨i,base,hi,hgo,rfl,rfl⟩:=hI
      rw [hgo]
      by_cases hlt:i<kz.length
      · obtain ⟨t', ht'⟩ : ∃ t', kz[i]? = some t' := ⟨kz[i], by simp⟩
        have hm:t'∈kz:=List.mem_of_getElem? ht'
        have hle:=ZJ hm
        have hc:=ih t' hm (by omega)
        have hd:=ZgR ht'
        generalize t'.ari=A at hc hd
        obtain ⟨k',nm',s',b',kz'⟩:=t'
        have hj:=Zh ht'
        simp only [Tm.cells] at hc
        clear ih
        have hlx:=Zt (i:Int) (kz.length:Int)
        rw [decide_eq_true (by omega)] at hlx
        cases A
        · rw [Bool.false_and] at hd
          repeat' first|refine Jk ?_|refine Jc (hc _) ?_|refine Ji ?_|refine JJ ?_|refine Jl ?_|refine Jx ?_|refine Jt ?_|refine Jb ?_ ?_|refine Jo ?_|intro hb
          all_goals first
           | rw [hd]
           | (exfalso;simp at hb;done)
        · rw [Bool.true_and] at hd
          repeat' first|refine Jk ?_|refine Jc (hc _) ?_|refine Ji ?_|refine JJ ?_|refine Jl ?_|refine Jx ?_|refine Jt ?_|refine Jb ?_ ?_|refine Jo ?_|intro hb
          all_goals first
           | exact LoopI.go (m-1) (by omega) ⟨i+1,_,by omega,by rw [hd],Zf ⟨rfl,rfl,Ze (Zc (n:=i+1) (by omega)),trivial⟩,rfl⟩
           | (exfalso;simp at hb;done)
      · have e : i = kz.length := by omega
        subst e
        clear ih
        have hlx:=Zt (kz.length:Int) (kz.length:Int)
        rw [decide_eq_false (by omega)] at hlx
        repeat' first|refine Jk ?_|refine Ji ?_|refine JJ ?_|refine Jl ?_|refine Jx ?_|refine Jt ?_|refine Jb ?_ ?_|refine Jo ?_|intro hb
        all_goals first
         | (rw [List.drop_length];rfl)
         | (exfalso;simp at hb;done)
   · rw [if_neg har]
     clear ih
     rcases hnm with rfl|rfl|rfl
     all_goals
      simp only [Za7,ZaI,Za0,Bool.not_eq_true',decide_eq_false_iff_not,decide_eq_true_eq] at har
      simp only [W7,WJ,Vn] at hsp ⊢
      repeat' first|refine Jk ?_|refine Jc (hsp _) ?_|refine Ji ?_|refine JJ ?_|refine Jl ?_|refine Jx ?_|refine Jt ?_|refine Jb ?_ ?_|refine Jo ?_|intro hb
      all_goals first
       | rfl
       | (exfalso;simp at hb<;>omega)
       | (exfalso;rw [hlen] at hb;revert hb;simp only [bne_eq_false_iff_eq];omega)
 · rw [if_neg he]
   rw [Bool.eq_false_iff.2 he] at hsp
   clear ih
   repeat' first|refine Jk ?_|refine Jc (hsp _) ?_|refine Ji ?_|refine JJ ?_|refine Jl ?_|refine Jx ?_|refine Jt ?_|refine Jb ?_ ?_|refine Jo ?_|intro hb
   all_goals rfl
theorem Zei {es:Nat} {L:List (List PV)} {out:PV} {lv:List Nat} {nt:Nat} (h:ApV false es L out lv nt):∃ tl,out= .sl tl es L:=by
 cases h with
 |nil _ _ h=>cases h
 |full=>exact ⟨_,rfl⟩
 |tok=>exact ⟨_,rfl⟩
theorem c76 (nm:Bs) {l:List Tm} (hlen:l.length≤10000) (b:Bool):∀ H,CallOk E0 Tryz.prog 76 [.str nm,slV b 4 (Za l)] H (.agg (Tm.mk 3 nm 0 false l).cells) H:=by
 have hA0:ApV false 4 [] (.sl .full 4 []) [] 0:= .full [] _ _ rfl rfl
 obtain ⟨out',lv',nt',hap,hA', -⟩:=hA0.app YX (.slV b 4 (Za l)) (Zr _) (ZX (by simp only [Zb,List.length_nil];omega) (by decide)) (ZU _)
 rw [List.nil_append] at hA'
 have hco:=Qt hA' 3 nm 0
 have hfr:=fun m H=>ZgV hA' m H 3 nm 0
 simp only [Tm.cells]
 obtain ⟨tl,rfl⟩:=Zei hA'
 refine Jw tOk fe76.ok (ZS _ _ _ _ _ _ _) ?_
 repeat' first|refine Js ?_|refine JA ?_|refine Jo ?_|intro hb
 exact hfr _ _
theorem ZjP (nm:Bs) (x:Tm):∀ H,CallOk E0 Tryz.prog 76 [.str nm,.sl .full 4 [x.cells]] H (.agg (Tm.mk 3 nm 0 true [x]).cells) H:=fun H=>by
 have:=c76 nm (l:=[x]) (by simp) true H
 simp only [Tm.cells,Za,Zp] at this ⊢
 exact ZV this rfl
