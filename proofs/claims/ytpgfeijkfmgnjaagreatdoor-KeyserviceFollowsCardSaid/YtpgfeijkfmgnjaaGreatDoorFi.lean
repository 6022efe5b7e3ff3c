/-
  A call that writes the third box of three, as a store in a drawn region; the hea
-/
import Derived.Test.YtpgfeijkfmgnjaaGreatDoorFh
import Derived.WideShapes
import Derived.Shelf.SlSortCmp.WholeK
import Derived.Lib.ItoaNum
import Derived.Lib.AtoiAll
import Derived.Lib.ItoaMem
namespace Go.Vm
variable {l:List Tm} {N by_ es i nt:Nat} {a t u v y:Tm} {k n:Int} {L el:List (List PV)} {s:Bs} {b:Bool} {lv:List Nat} {args cs:List PV} {W w':World} {p:PV} {c:Code} {f:FuncId} {fn:Func} {g:Gh} {H:Heap} {r:List UInt8} {A B X Y:Box}
mutual
def Tm.all:Tm→List Tm
 | .mk k nm s b kz=> .mk k nm s b kz::UB kz
def UB:List Tm→List Tm
 | []=>[]
 |t::r=>t.all++UB r
end
def Tm.knd:Tm→Int
 | .mk k _ _ _ _=>k
theorem Zc1 (h:l[i]? = some t):UB (l.take (i+1))=UB (l.take i)++t.all:=by
 induction l generalizing i with
 |nil=>simp at h
 | cons a r ih =>
   cases i with
   | zero=>simp at h;subst h;simp [UB]
   | succ i=>simp at h;simp only [List.take_succ_cons,UB,ih h,List.append_assoc]
mutual
theorem Tm.all_len:∀ t:Tm,t.all.length=t.size
 | .mk k nm s b kz=>by have:=VR kz;simp only [Tm.all,Tm.size,List.length_cons];omega
theorem VR:∀ l:List Tm,(UB l).length=Zx l
 | []=>rfl
 |t::r=>by have:=t.all_len;have:=VR r;simp only [UB,Zx,List.length_append];omega
end
theorem ZiC (ht:t.Ok):∀ x,x∈t.all→x.Ok∧x.size≤t.size:=by
 induction ht with
 | @mk k nm s b kz hk hs hn hl hok ih =>
   have key:∀ l:List Tm,(∀ t,t∈l→t∈kz)→∀ x,x∈UB l→x.Ok∧x.size≤Zx l:=by
    intro l
    induction l with
    | nil=>intro _ x hx;simp [UB] at hx
    | cons a r ih2 =>
      intro hl x hx
      simp only [UB,List.mem_append] at hx
      simp only [Zx]
      rcases hx with hx|hx
      · have := ih a (hl a List.mem_cons_self) x hx
        exact ⟨this.1,by omega⟩
      · have := ih2 (fun t ht => hl t (List.mem_cons_of_mem _ ht)) x hx
        exact ⟨this.1,by omega⟩
   intro x hx
   simp only [Tm.all,List.mem_cons] at hx
   rcases hx with rfl|hx
   · exact ⟨.mk hk hs hn hl hok,Nat.le_refl _⟩
   · have := key kz (fun _ h => h) x hx
     simp only [Tm.size]
     exact ⟨this.1,by omega⟩
def Uc (k:Int) (l:List Tm):List Tm:=l.filter fun t=>decide (t.knd=k)
theorem ZjE (h:l[i]? = some t):Uc k (l.take (i+1))=Uc k (l.take i)++if t.knd=k then [t] else []:=by
 simp only [Uc,List.take_add_one,h,Option.toList_some,List.filter_append]
 congr 1
 by_cases c:t.knd=k<;>simp [c]
theorem Q6 (k:Int) (l:List Tm):(Uc k l).length≤l.length:=List.length_filter_le _ _
def Yk (t:Tm) (s:List Tm×Bool) (x:Tm):List Tm×Bool:=
 if s.2=false∧t.cmp x≤0 then ((s.1++if t.cmp x<0 then [t] else [])++ [x],true) else (s.1++ [x],s.2)
def ZcR (l:List Tm) (t:Tm):List Tm:=match l.foldl (Yk t) ([],false) with
 |(o,true)=>o
 |(o,false)=>o++ [t]
def Zad (l:List Tm):List Tm:=l.foldl ZcR []
theorem ZbM {α β:Type} {f:β→α→β} {b:β} {l:List α} {x:α} (h:l[i]? = some x):(l.take (i+1)).foldl f b=f ((l.take i).foldl f b) x:=by
 simp [List.take_add_one,h,List.foldl_append]
def b01:Bool→Nat
 |true=>0
 |false=>1
theorem Zed (t:Tm) (s:List Tm×Bool) (x:Tm):(Yk t s x).1.length+b01 (Yk t s x).2≤s.1.length+b01 s.2+1:=by
 unfold Yk
 split
 · rename_i h
   rw [h.1]
   split<;>simp [b01]
 · simp;omega
theorem Ul (t:Tm):∀ (l:List Tm) (s:List Tm×Bool),(l.foldl (Yk t) s).1.length+b01 (l.foldl (Yk t) s).2≤s.1.length+b01 s.2+l.length
 | [],s=>by simp
 | x :: r, s => by
   have h1:=Ul t r (Yk t s x)
   have h2:=Zed t s x
   simp only [List.foldl_cons,List.length_cons]
   omega
theorem Zj7 (l:List Tm) (t:Tm):(ZcR l t).length≤l.length+1:=by
 have:=Ul t l ([],false)
 unfold ZcR
 generalize l.foldl (Yk t) ([],false)=s at this
 obtain ⟨o,d⟩:=s
 cases d<;>simp [b01] at* <;> omega
theorem ZaI (t:Tm):∀ (l:List Tm) (s:List Tm×Bool) (x:Tm),x∈(l.foldl (Yk t) s).1→x∈s.1∨x∈l∨x=t
 | [],s,x,h=> .inl h
 | y :: r, s, x, h => by
   rcases ZaI t r (Yk t s y) x h with h1|h1|h1
   · unfold Yk at h1
     split at h1
     · split at h1
       · simp at h1; rcases h1 with h1 | h1 | h1
         · exact .inl h1
         · exact .inr (.inr h1)
         · exact .inr (.inl (by simp [h1]))
       · simp at h1; rcases h1 with h1 | h1
         · exact .inl h1
         · exact .inr (.inl (by simp [h1]))
     · simp at h1; rcases h1 with h1 | h1
       · exact .inl h1
       · exact .inr (.inl (by simp [h1]))
   · exact .inr (.inl (List.mem_cons_of_mem _ h1))
   · exact .inr (.inr h1)
theorem Zkb {x:Tm} (h:x∈ZcR l t):x∈l∨x=t:=by
 unfold ZcR at h
 have:=ZaI t l ([],false) x
 generalize l.foldl (Yk t) ([],false)=s at this h
 obtain ⟨o,d⟩:=s
 cases d with
 |true=>rcases this h with h|h|h<;>simp_all
 | false =>
   simp at h
   rcases h with h|h
   · rcases this h with h|h|h<;>simp_all
   · exact .inr h
theorem Zb0 (t:Tm):∀ (l:List Tm) (s:List Tm×Bool),(s.1≠ []∨s.2=false)→((l.foldl (Yk t) s).1≠ []∨(l.foldl (Yk t) s).2=false)
 | [],_,h=>h
 | y :: r, s, _ => by
   refine Zb0 t r (Yk t s y) (.inl ?_)
   unfold Yk
   split
   · split<;>simp
   · simp
theorem Ziq (l:List Tm) (t:Tm):ZcR l t≠ []:=by
 unfold ZcR
 have:=Zb0 t l ([],false) (.inr rfl)
 generalize l.foldl (Yk t) ([],false)=s at this
 obtain ⟨o,d⟩:=s
 cases d with
 |true=>simpa using this
 |false=>simp
theorem Zal:∀ (l o:List Tm),(l.foldl ZcR o).length≤o.length+l.length
 | [],o=>by simp
 | x :: r, o => by
   have:=Zal r (ZcR o x)
   have:=Zj7 o x
   simp only [List.foldl_cons,List.length_cons]
   omega
theorem Zat:∀ (l o:List Tm) (x:Tm),x∈l.foldl ZcR o→x∈o∨x∈l
 | [],o,x,h=> .inl h
 | y :: r, o, x, h => by
   rcases Zat r (ZcR o y) x h with h|h
   · rcases Zkb h with h | h
     · exact .inl h
     · exact .inr (by simp [h])
   · exact .inr (List.mem_cons_of_mem _ h)
theorem Zbl:∀ (l o:List Tm),o≠ []→l.foldl ZcR o≠ []
 | [],_,h=>h
 |x::r,o,_=>Zbl r (ZcR o x) (Ziq o x)
theorem Zka:Zad l= []↔l= []:=by
 cases l with
 |nil=>simp [Zad]
 |cons a r=>simp only [Zad,List.foldl_cons,reduceCtorEq,iff_false];exact Zbl r _ (Ziq [] a)
def Tm.ground (t:Tm):Bool:=(Uc 1 t.all).isEmpty
def Tm.fre1:Tm→Bool
 | .mk k nm _ _ _=>if k=3 then ZnB nm else true
mutual
theorem Tm.fre_all:∀ t:Tm,t.fre=t.all.all Tm.fre1
 | .mk k nm s b kz=>by have:=Zgg kz;simp only [Tm.fre,Tm.all,List.all_cons,Tm.fre1,this]
theorem Zgg:∀ l:List Tm,ZgD l=(UB l).all Tm.fre1
 | []=>rfl
 |t::r=>by have:=t.fre_all;have:=Zgg r;simp only [ZgD,UB,List.all_append, *]
end
def Tm.key (t:Tm):Int:=if t.valid≠0 then t.valid else if t.th≠0 then t.th else if t.ground=false then 13 else if t.fre=false then 10 else 0
mutual
def Tm.cl:Tm→Tm
 | .mk k nm s _ kz=> .mk k nm s true (clL kz)
def clL:List Tm→List Tm
 | []=>[]
 |t::r=>t.cl::clL r
end
theorem XE (l:List Tm):clL l=l.map Tm.cl:=by
 induction l with
 |nil=>rfl
 |cons a r ih=>simp [clL,ih]
theorem We (l:List Tm):(clL l).length=l.length:=by rw [XE,List.length_map]
theorem ZcL (h:l[i]? = some t):clL (l.take (i+1))=clL (l.take i)++ [t.cl]:=by
 simp [XE,List.take_add_one,h]
def V3:PV→Option Nat
 | .sl (.tok k) _ _=>some k
 |_=>none
inductive ApV (b:Bool) (es:Nat):List (List PV)→PV→List Nat→Nat→Prop
 |nil (lv:List Nat) (nt:Nat) (h:b=true):ApV b es [] .nils lv nt
 |full (L:List (List PV)) (lv:List Nat) (nt:Nat) (h:b=false) (hB:noB L=true):ApV b es L (.sl .full es L) lv nt
 |tok (L:List (List PV)) (k:Nat) (lv:List Nat) (nt:Nat) (hL:L≠ []) (hk:k∈lv) (hn:k<nt) (hB:noB L=true):ApV b es L (.sl (.tok k) es L) lv nt
theorem VN {M:List (List PV)} (h:noB L=true) (h2:noB M=true):noB (L++M)=true:=by
 simp only [noB,List.all_append,Bool.and_eq_true] at h h2 ⊢
 exact ⟨h,h2⟩
theorem QL:∀ {l:List Nat} {k:Nat},k∈l→∃ l',X5 k l=some l'∧∀ j,j∈l→j≠k→j∈l'
 | x :: r, k, h => by
   simp only [X5]
   by_cases e:x=k
   · rw [if_pos e]
     refine ⟨r,rfl,fun j hj hn=>?_⟩
     rcases List.mem_cons.1 hj with e2|hj
     · exact absurd (e2.trans e) hn
     · exact hj
   · rw [if_neg e]
     have hr:k∈r:=by
      rcases List.mem_cons.1 h with e2|h
      · exact absurd e2.symm e
      · exact h
     obtain ⟨l',h1,h2⟩:=QL hr
     rw [h1]
     refine ⟨x::l',rfl,fun j hj hn=>?_⟩
     rcases List.mem_cons.1 hj with e2|hj
     · rw [e2];exact List.mem_cons_self
     · exact List.mem_cons_of_mem _ (h2 j hj hn)
theorem ApV.under {b:Bool} {es:Nat} {L:List (List PV)} {out:PV} {lv:List Nat} {nt:Nat} (h:ApV b es L out lv nt) (n:Nat):under n out=true:=by
 cases h<;>rfl
theorem ApV.frz1 {b:Bool} {es:Nat} {L:List (List PV)} {out:PV} {lv:List Nat} {nt:Nat} (h:ApV b es L out lv nt):frz1 out=some (slV b es L):=by
 cases h with
 |nil lv nt h=>subst h;rw [Zq];rfl
 | full L lv nt h =>
   subst h
   cases L with
   | nil=>rw [Yd];rfl
   | cons c r=>rw [Zw];rfl
 | tok L k lv nt hL =>
   cases L with
   | nil=>exact absurd rfl hL
   | cons c r=>rw [Zw];rfl
theorem ApV.frzC {b:Bool} {es:Nat} {L:List (List PV)} {out:PV} {lv:List Nat} {nt:Nat} (h:ApV b es L out lv nt) (m:Nat) (H:Heap):frzC m H out=some (slV b es L):=by
 have h1:=h.frz1
 cases h<;>exact h1
theorem ApV.frz2 {b:Bool} {es:Nat} {L:List (List PV)} {out:PV} {lv:List Nat} {nt:Nat} (h:ApV b es L out lv nt) (m:Nat) (H:Heap):frz2 m H out=some (slV b es L):=by
 have h1:=h.frz1
 cases h<;>exact h1
theorem ApV.frz3 {b:Bool} {es:Nat} {L:List (List PV)} {out:PV} {lv:List Nat} {nt:Nat} (h:ApV b es L out lv nt) (m:Nat) (H:Heap):frz3 m H out=some (slV b es L):=by
 have h1:=h.frz1
 cases h<;>exact h1
theorem ApV.frzG {b:Bool} {es:Nat} {L:List (List PV)} {out:PV} {lv:List Nat} {nt:Nat} (h:ApV b es L out lv nt):frzG out=some (slV b es L):=by
 have h1:=h.frz1
 cases h<;>exact h1
theorem ApV.argV {b:Bool} {es:Nat} {L:List (List PV)} {out:PV} {lv:List Nat} {nt:Nat} (h:ApV b es L out lv nt):argV out=slV b es L:=by
 cases h with
 |nil lv nt h=>subst h;rw [Zq];rfl
 | full L lv nt h => subst h; cases L with
   | nil=>rw [Yd];rfl
   | cons c r=>rw [Zw];rfl
 | tok L k lv nt hL => cases L with
   | nil=>exact absurd rfl hL
   | cons c r=>rw [Zw];rfl
structure ElV (es:Nat) (x:PV) (el:List (List PV)):Prop where
 el:∀ H,Xg H x=some el
 size:Vp es x=es
theorem ElV.slV (b:Bool) (es:Nat) (el:List (List PV)):ElV es (slV b es el) el:=by
 cases el with
 | nil => cases b
          · rw [Yd];exact ⟨fun _=>rfl,rfl⟩
          · rw [Zq];exact ⟨fun _=>rfl,rfl⟩
 |cons c r=>rw [Zw];exact ⟨fun _=>rfl,rfl⟩
theorem ElV.sl (tl:Tail) (es:Nat) (el:List (List PV)):ElV es (.sl tl es el) el:=⟨fun _=>rfl,rfl⟩
theorem ElV.nils (es:Nat):ElV es .nils []:=⟨fun _=>rfl,rfl⟩
section
variable {E:Env}
structure ApT (E:Env) (t u:TypeId) (es by_:Nat):Prop where
 h:∃ ti ui e f ei,E.T t=some ti∧E.T u=some ui∧ti.tk= .slice e∧ui.tk= .slice f∧E.T e=some ei∧ei.size=es∧ei.bytes=by_∧0<ei.size∧ei.zero.cells.length=ei.size
theorem Y6 {t u : TypeId} (hT : ApT E t u es by_) {s x : PV} (hx : ElV es x el) (hok : el.all (fun c => c.all Z7) = true) (hs : Vp es s = es) (ho : Zl3 s = true) (H : Heap) :
  Wl E t u s x H=some (es,by_,el):=by
 obtain ⟨ti,ui,e,f,ei,h1,h2,h3,h4,h5,h6,h7,h8,h9⟩:=hT.h
 simp only [Wl,h1,h2,h3,h4,h5]
 subst h6 h7
 rw [if_pos ⟨h8,h9,hs,hx.size⟩,hx.el H]
 simp only [hok,ho,and_self,if_true]
theorem ApV.app {out : PV} (h : ApV b es L out lv nt) {t u : TypeId} (hT : ApT E t u es by_) {x : PV} (hx : ElV es x el)
  (hok:el.all (fun c=>c.all Z7)=true) (hf:WG L.length el.length by_=true) (hnb:noB el=true) :
  ∃ out' lv' nt',(∀ bx ro,Yf E t u out x ⟨bx,ro,lv,nt⟩=some (out',⟨bx,ro,lv',nt'⟩))∧ApV b es (L++el) out' lv' nt'∧
   ∀ b2 es2 L2 out2,ApV b2 es2 L2 out2 lv nt→(V3 out2=none∨V3 out2≠V3 out)→ApV b2 es2 L2 out2 lv' nt'∧(V3 out2=none∨V3 out2≠V3 out'):=by
 have hs:Vp es out=es:=by cases h<;>rfl
 have ho:Zl3 out=true:=by cases h<;>rfl
 cases el with
 | nil =>
   refine ⟨out,lv,nt,fun bx ro=>?_,by rw [List.append_nil];exact h,fun b2 es2 L2 out2 h2 hne=>⟨h2,hne⟩⟩
   simp only [Yf,Y6 hT hx hok hs ho]
 | cons y yr =>
   have fresh:∀ (lv':List Nat),(∀ j,j∈lv→some j≠V3 out→j∈lv')→∀ b2 es2 L2 out2,ApV b2 es2 L2 out2 lv nt→(V3 out2=none∨V3 out2≠V3 out)→ApV b2 es2 L2 out2 (nt::lv') (nt+1)∧(V3 out2=none∨V3 out2≠V3 (.sl (.tok nt) es (L++y::yr))):=fun lv' hl b2 es2 L2 out2 h2 hne=>by
    cases h2 with
    | nil _ _ hb=>exact ⟨.nil _ _ hb,.inl rfl⟩
    | full _ _ _ hb hB=>exact ⟨.full _ _ _ hb hB,.inl rfl⟩
    | tok _ k _ _ hL hk hn hB =>
      have hne2:some k≠V3 out:=by
       rcases hne with h|h
       · simp [V3] at h
       · exact h
      refine ⟨.tok _ k _ _ hL (List.mem_cons_of_mem _ (hl k hk hne2)) (by omega) hB,.inr ?_⟩
      simp only [V3,ne_eq,Option.some.injEq]
      omega
   cases h with
   | nil _ _ hb =>
     refine ⟨.sl (.tok nt) es (y::yr),nt::lv,nt+1,fun bx ro=>?_,.tok _ nt _ _ (by simp) List.mem_cons_self (Nat.lt_succ_self _) hnb,fresh lv fun j hj _=>hj⟩
     simp only [Yf,Y6 hT hx hok hs ho,Xj,List.nil_append]
     exact if_pos (by rw [hf,Zak hnb];rfl)
   | full _ _ _ hb hB =>
     refine ⟨.sl (.tok nt) es (L++y::yr),nt::lv,nt+1,fun bx ro=>?_,.tok _ nt _ _ (by simp) List.mem_cons_self (Nat.lt_succ_self _) (VN hB hnb),fresh lv fun j hj _=>hj⟩
     simp only [Yf,Y6 hT hx hok hs ho,Xj]
     rw [if_pos (by rw [hf,Zak (VN hB hnb)];rfl)]
   | tok _ k _ _ hL hk hn hB =>
     obtain ⟨l',h1,h2⟩:=QL hk
     refine ⟨.sl (.tok nt) es (L++y::yr),nt::l',nt+1,fun bx ro=>?_,.tok _ nt _ _ (by simp) List.mem_cons_self (Nat.lt_succ_self _) (VN hB hnb),fresh l' fun j hj hne=>h2 j hj fun e=>hne (by rw [e];rfl)⟩
     simp only [Yf,Y6 hT hx hok hs ho]
     rw [if_pos (by rw [hf,Zak (VN hB hnb),hnb,Bool.or_true];rfl),h1]
end
open Go.RowKit
section
variable {T:TypeId→Option TI}
theorem Zji {x:TypeId} (h:Sh T x cs) {ti:TI} {k:IntKind} (ht:T x=some ti) (hk:ti.tk= .int k):∃ n,cs= [.int k n]∧(Lit.int k n).wf=true:=by
 cases h with
 |int h' hk' hn=>rw [ht] at h';cases h';rw [hk] at hk';cases hk';exact ⟨_,rfl,hn⟩
 |bool h' hk'=>rw [ht] at h';cases h';rw [hk] at hk';cases hk'
 |str h' hk'=>rw [ht] at h';cases h';rw [hk] at hk';cases hk'
 |nils h' hk'=>rw [ht] at h';cases h';rw [hk] at hk';cases hk'
 |sl h' hk'=>rw [ht] at h';cases h';rw [hk] at hk';cases hk'
 |struct h' hk'=>rw [ht] at h';cases h';rw [hk] at hk';cases hk'
theorem Z1 (es:Nat) (el:List (List PV)):slV false es el= .sl .none es el:=by
 cases el with
 |nil=>exact Yd es
 |cons c r=>exact Zw false es c r
end
section
variable {E:Env} {P:Program} {w:World}
theorem Znk (h:∀ k,k<w.heap.size→w'.heap[k]? = w.heap[k]?) {p:MemPlace} (hp:p.block<w.heap.size):w.sameAt w' p:=by
 cases p with
 |cell b o=>exact World.cell?_of_block (w:=w) (h b hp)
 |map b=>exact h b hp
end
abbrev Zo5:=List UInt8
def Y2 (l:List Zo5):List (List PV):=l.map fun s=>[.str s]
theorem XP (l:List Zo5):(Y2 l).length=l.length:=by simp [Y2]
theorem Q4 {l:List Zo5} {x:Zo5} (h:l[i]? = some x):(Y2 l)[i]? = some [.str x]:=by simp [Y2,h]
structure Mo where
 kind:Int
 num:Int
 role:Int
 an:Bool
 agents:List Zo5
 goal:Int
 tn:Bool
 terms:List Tm
def Mo.cells (m:Mo):List PV:=[.int .i64 m.kind,.int .i64 m.num,.int .i64 m.role,slV m.an 1 (Y2 m.agents),.int .i64 m.goal,slV m.tn 4 (Za m.terms)]
structure Mo.Ok (m:Mo):Prop where
 kind:(Lit.int .i64 m.kind).wf=true
 num:(Lit.int .i64 m.num).wf=true
 role:(Lit.int .i64 m.role).wf=true
 goal:(Lit.int .i64 m.goal).wf=true
 al:m.agents.length≤maxLen
 ags:∀ s,s∈m.agents→s.length≤maxLen
 tl:m.terms.length≤maxLen
 ts:∀ t,t∈m.terms→t.Ok
theorem Zo (a b:List Tm):Za (a++b)=Za a++Za b:=by simp [YU]
theorem Zs (l:List Tm):(Za l).all (fun c=>c.all Z7)=true:=by
 rw [YU,List.all_map,List.all_eq_true]
 rintro ⟨k,nm,s,b,kz⟩ _
 simp only [Function.comp,Tm.cells,List.all_cons,List.all_nil,Ya]
 rfl
open Go.Sort Go.Proofs
def gtT (l:List Tm) (i:Nat):Tm:=(l[i]?).getD (l.headD .zero)
theorem Zlm (h:i<l.length):gtT l i=l[i]:=by simp [gtT,h]
theorem Xh (hne:l≠ []) (i:Nat):gtT l i∈l:=by
 unfold gtT
 cases h:l[i]? with
 |some x=>exact List.mem_of_getElem? h
 | none => cases l with
   | nil=>exact absurd rfl hne
   | cons a r=>simp
def Zbc (l:List Tm) (i j:Nat):Int:=(gtT l i).cmp (gtT l j)
def XT (l:List Tm):Array Nat:=pdq (ltOf (Zbc l)) (Array.range l.length) 0 l.length (Lib.bitLen l.length) true true
def Uk (l:List Tm):List Tm:=(XT l).toList.map (gtT l)
theorem Zgw {c:Nat→Nat→Int} {x y:Nat}:ltOf c x y=true↔c x y<0:=by unfold ltOf;exact decide_eq_true_iff
theorem ZfN {c:Nat→Nat→Int} {x y:Nat}:ltOf c x y=false↔0≤c x y:=by
 rw [← Bool.not_eq_true,Zgw];omega
theorem Zn4 (hne:l≠ []) (h:∀ t,t∈l→t.size≤N):SWO (ltOf (Zbc l)) where
 irrefl x:=by
  have hx:=h _ (Xh hne x)
  have:=(Zay N).anti _ _ hx hx
  rw [ZfN]
  simp only [Zbc]
  omega
 trans x y z h1 h2:=by
  rw [Zgw] at *
  simp only [Zbc] at *
  exact (Zay N).strict1 (h _ (Xh hne x)) (h _ (Xh hne y)) (h _ (Xh hne z)) h1 (by omega)
 ntrans x y z h1 h2:=by
  rw [ZfN] at *
  simp only [Zbc] at *
  have a1:=(Zay N).anti _ _ (h _ (Xh hne x)) (h _ (Xh hne y))
  have a2:=(Zay N).anti _ _ (h _ (Xh hne y)) (h _ (Xh hne z))
  have a3:=(Zay N).anti _ _ (h _ (Xh hne x)) (h _ (Xh hne z))
  have:=(Zay N).tr _ _ _ (h _ (Xh hne z)) (h _ (Xh hne y)) (h _ (Xh hne x)) (by omega) (by omega)
  omega
theorem ZaX (hne:l≠ []) (h:∀ t,t∈l→t.size≤N):PermIn 0 l.length (Array.range l.length) (XT l)∧SortedIn (ltOf (Zbc l)) 0 l.length (XT l):=
 pdq_sorts (ltOf (Zbc l)) (Zn4 hne h) (Array.range l.length) 0 l.length (Lib.bitLen l.length) true true (Nat.zero_le _) (by simp) (.inl rfl)
theorem Zaq (hne:l≠ []) (h:∀ t,t∈l→t.size≤N):(XT l).size=l.length:=by simpa using (ZaX hne h).1.1
theorem Zcv (l:List Tm):(List.range l.length).map (gtT l)=l:=by
 apply List.ext_getElem
 · simp
 · intro i h1 h2;simp [Zlm h2]
theorem Zg2 (hne:l≠ []) (h:∀ t,t∈l→t.size≤N):(Uk l).Perm l:=by
 have h1:=(ZaX hne h).1.2.2
 have h2:=Zaq hne h
 have e1:((XT l).extract 0 l.length).toList=(XT l).toList:=by rw [← h2];simp
 have e2:((Array.range l.length).extract 0 l.length).toList=List.range l.length:=by simp
 rw [e1,e2] at h1
 have:=h1.map (gtT l)
 rwa [Zcv] at this
theorem Zna (hh : ∀ k, k < W.heap.size → w'.heap[k]? = W.heap[k]?) (hs : W.heap.size ≤ w'.heap.size) (h1 : w'.os = W.os) (h2 : w'.output = W.output) (h3 : w'.tape = W.tape) (h4 : W.drawn ≤ w'.drawn) :
  ∃ q os',w'=grow (W.drewN q) os':=by
 refine ⟨w'.drawn-W.drawn,w'.heap.extract W.heap.size w'.heap.size,?_⟩
 have hheap:w'.heap=W.heap++w'.heap.extract W.heap.size w'.heap.size:=by
  refine Array.ext_getElem? fun k=>?_
  rw [Array.getElem?_append]
  split
  · rename_i h;exact hh k h
  · rename_i h
    rw [Array.getElem?_extract]
    split
    · congr 1;omega
    · rw [Array.getElem?_eq_none (by omega)]
 have hd:(W.drewN (w'.drawn-W.drawn)).drawn=w'.drawn:=by
  have:(W.drewN (w'.drawn-W.drawn)).drawn=W.drawn+(w'.drawn-W.drawn):=rfl
  omega
 obtain ⟨a,b,c,d,e⟩:=w'
 simp only at h1 h2 h3 h4 hheap hd
 subst h1 h2 h3
 have:(grow (W.drewN (c-W.drawn)) (a.extract W.heap.size a.size))=⟨W.heap++a.extract W.heap.size a.size,W.tape,W.drawn+(c-W.drawn),W.os,W.output⟩:=rfl
 rw [this, ← hheap]
 congr 1
 omega
section
variable {E E1:Env} {P:Program}
def wGm (w:World):Gh:={S:=wS w,σ:=fun _=>none,τ:=fun _=>none,κ:=fun _=>0,mono:=true}
theorem ZmY (w:World):Inv (wGm w) hNil w:=by
 have h:=Zlq w
 exact ⟨h.st,fun id es el h=>by simp [hNil] at h,fun id es h=>by simp [hNil] at h,fun id T cs h=>by simp [hNil] at h,fun i j b h=>(Ww h).elim,fun _ _=>rfl,fun _ _=>rfl,fun t b lo hi h=>by simp [hNil] at h,fun t t' b lo hi lo' hi2 h=>by simp [hNil] at h,List.nodup_nil,fun t h=>by simp [hNil] at h,fun id b h=>by simp [wGm] at h,Nat.le_refl _,fun id b c T m h=>(Ww h).elim⟩
theorem ZgT (hf : FnOk P f fn c) (hG : GOk E1 (wGm W)) {k : IntKind} (h : CallOk E1 P f args hNil (.int k n) hNil) {vals : Array Value} (hv : Uh (wS W) args vals.toList) :
  Calls P f vals W fun e w'=>e= .returned (.int k n)∧∃ q os',w'=grow (W.drewN q) os':=by
 have hu:=h (wGm W) W vals (ZmY W) hG ⟨hv.1,fun i h1 h2=> .pure _ _ (hv.2 i h1 h2)⟩
 rw [Z2 hf] at hu
 exact Calls.mono hu fun e w' ⟨v,e1,g',hp,_,kp⟩=>by
  obtain rfl:=hp.int_inv
  exact ⟨e1,Zna (fun i hi=>kp.heap i hi (VW _ i)) kp.size kp.so.1 kp.so.2.1 kp.so.2.2.1 (kp.so.2.2.2 rfl)⟩
theorem V.fn0_inv {v:Value} (h:V g (.fn f []) v):v= .func (.func f) #[] #[]:=by
 cases h with
 | pure _ _ h => cases h with
   | fn _ _ vs hl _ =>
     have:vs= #[]:=Array.size_eq_zero_iff.1 hl
     rw [this]
 | fn _ _ vs hl _ =>
   have:vs= #[]:=Array.size_eq_zero_iff.1 hl
   rw [this]
theorem Zil (t:Tm):t.cells.all Z7=true:=by
 obtain ⟨k,nm,s,b,kz⟩:=t
 simp only [Tm.cells,List.all_cons,List.all_nil,Ya]
 rfl
theorem ZmD (h:p∈t.cells):frz1 p=some p:=by
 obtain ⟨k,nm,s,b,kz⟩:=t
 simp only [Tm.cells,List.mem_cons,List.not_mem_nil,or_false] at h
 rcases h with rfl|rfl|rfl|rfl
 · rfl
 · rfl
 · rfl
 · exact ZD _ _ _
theorem Zl2 {g : FuncId} {fng : Func} {cg : Code} (hf : FnOk P f fn c) (hfg : FnOk P g fng cg) (hG1 : E1.G = E.G ∧ E1.I = E.I) (hm1 : E1.mono = true)
  (hK : ∀ (enc : Nat → List Value) (_ : ∀ x, (enc x).length = 4) (_ : ∀ x, ∀ v ∈ enc x, v.oneCell' = true) (cf : Nat → Nat → Int) (_ : SWO (ltOf cf)) (blk off cap : Nat) (d : Array Nat) (w : World)
    (_:∀ args w,(callFunc g args).run P w= .ok (.enter g args) w) (_:CmpLays P g #[] enc 4 cf blk off d.size w) (_:HoldsK enc 4 w blk off d) (_:blk<w.heap.size) (_:d.size<4611686018427387904),
    Calls P f #[.slice (some ⟨blk,off,none⟩) d.size cap,.func (.func g) #[] #[]] w fun e w'=>
     e= .returned (.tuple #[])∧∃ n os,w'=sortWorldK enc 4 w blk off n (pdq (ltOf cf) d 0 d.size (Lib.bitLen d.size) true true) os)
 (hne:l≠ []) (hsz:∀ t,t∈l→t.size≤N) (hcmp:∀ a b,a∈l→b∈l→CallOk E1 P g [.agg a.cells,.agg b.cells] hNil (.int .i64 (a.cmp b)) hNil) (hlen:l.length<4611686018427387904)
 {id:Nat} (hb:H.bx[id]? = some (.cells 4 (Za l))) (hro:H.ro≤id) :
  CallOk E P f [.own id 4 0 l.length,.fn g []] H (.tup []) {H with bx:=H.bx.set id (.cells 4 (Za (Uk l)))}:=by
 intro gh w vals hi hg hv
 obtain ⟨v0,v1,rfl,e0,e1⟩:=VM hv
 have hpos:0<l.length:=List.length_pos_iff.2 hne
 obtain ⟨b,cap,a,hσ,hcap,ha,_,hκ,rfl⟩:=e0.own_inv2
 obtain rfl:=ha (.inl hpos)
 obtain rfl:=e1.fn0_inv
 obtain ⟨b',C,T,h1,hheap,hw4,hsize,hcell,hS⟩:=hi.bx _ _ _ hb
 rw [hσ] at h1;cases h1
 rw [Zb] at hsize
 have hbl:=hi.sz _ _ hσ
 have cl4:∀ (t:Tm),t.cells.length=4:=fun ⟨_,_,_,_,_⟩=>rfl
 have hget:∀ i (h:i<l.length) j,j<4→∃ v p,C[i*4+j]? = some v∧l[i].cells[j]? = some p∧V0 gh.S p v:=fun i h j hj=>by
  have hel:i<(Za l).length:=by rw [Zb];exact h
  have ee:(Za l)[i]=l[i].cells:=by simp [YU]
  have hjl:j<((Za l)[i]).length:=by rw [ee,cl4];exact hj
  obtain ⟨v,hv1,hv2⟩:=hcell i hel j hjl
  have hg1:l[i].cells[j]? = some ((Za l)[i][j]):=by rw [← ee];exact List.getElem?_eq_getElem hjl
  exact ⟨v,_,hv1,hg1,Qx hv2 (ZmD (List.mem_of_getElem? hg1))⟩
 let ixc:Nat→Nat:=fun i=>if i<l.length then i else 0
 have ixl:∀ i,ixc i<l.length:=fun i=>by simp only [ixc];split<;>assumption
 have ixg:∀ i,gtT l i=l[ixc i]'(ixl i):=fun i=>by
  by_cases e:i<l.length
  · have : ixc i = i := by simp [ixc, e]
    simp only [this,Zlm e]
  · have : ixc i = 0 := by simp [ixc, e]
    simp only [this]
    unfold gtT
    rw [List.getElem?_eq_none (by omega)]
    cases l with
    | nil=>exact absurd rfl hne
    | cons a r=>rfl
 let enc:Nat→List Value:=fun i=>(List.range 4).map fun j=>C.getD (ixc i*4+j) undef
 have encl:∀ x,(enc x).length=4:=fun x=>by simp [enc]
 have encg:∀ x j,j<4→∃ v p,C[ixc x*4+j]? = some v∧(enc x)[j]? = some v∧(gtT l x).cells[j]? = some p∧V0 gh.S p v:=fun x j hj=>by
  obtain ⟨v,p,q1,q2,q3⟩:=hget (ixc x) (ixl x) j hj
  refine ⟨v,p,q1,?_,by rw [ixg x];exact q2,q3⟩
  have:C.getD (ixc x*4+j) undef=v:=by
   simp only [Array.getD_eq_getD_getElem?,q1,Option.getD_some]
  simp only [enc,List.getElem?_map,List.getElem?_range hj,Option.map_some,this]
 have enc1:∀ x,∀ v∈enc x,v.oneCell'=true:=fun x v hvx=>by
  obtain ⟨j,hj,rfl⟩:=List.mem_iff_getElem.1 hvx
  rw [encl] at hj
  obtain ⟨v,p,q1,q2,q3,q4⟩:=encg x j hj
  rw [List.getElem?_eq_getElem (by rw [encl];exact hj)] at q2
  simp only [Option.some.injEq] at q2
  rw [q2]
  exact Wb (g:=gh) (.pure _ _ q4) (List.all_eq_true.1 (Zil (gtT l x)) _ (List.mem_of_getElem? q3))
 have hflat:∀ (d:Array Nat) t,t<d.size*4→(flatK enc 4 d)[t]! =C.getD (ixc d[t / 4]!*4+t % 4) undef:=fun d t ht=>by
  rw [get_flatK _ _ _ t ht]
  obtain ⟨v,_,q1,q2,_⟩:=encg d[t / 4]! (t % 4) (Nat.mod_lt _ (by omega))
  have:(enc d[t / 4]!)[t % 4]! =v:=by
   rw [List.getElem!_eq_getElem?_getD,q2];rfl
  rw [this,Array.getD_eq_getD_getElem?,q1];rfl
 have hH:HoldsK enc 4 w b 0 (Array.range l.length):=fun j hj=>by
  have hj':j<l.length*4:=by simpa using hj
  have hjc:j<C.size:=by omega
  have hq:j / 4<l.length:=by omega
  have e:(flatK enc 4 (Array.range l.length))[j]! =C[j]:=by
   rw [hflat _ j (by simpa using hj')]
   have r:(Array.range l.length)[j / 4]! =j / 4:=by
    rw [getElem!_pos _ _ (by simpa using hq)];simp
   rw [r]
   have:ixc (j / 4)=j / 4:=by simp [ixc,hq]
   rw [this,show j / 4*4+j % 4=j by omega]
   simp [Array.getD,hjc]
  refine ⟨?_,?_⟩
  · rw [Nat.zero_add, e]
    simp [World.cell?,hheap,hjc]
  · simp [World.frozen?,hheap]
 have Wcell:∀ (m:Nat) (os:Array Obj) (dk:Array Nat) b' o v,gh.S b' o=some v→(sortWorldK enc 4 w b 0 m dk os).cell? ⟨b',o,none⟩=some v:=fun m os dk b' o v hs=>by
  have hb':b'≠b:=fun e=>by subst e;rw [hS] at hs;cases hs
  have hlt:=hi.S_lt hs
  have hst:=hi.st _ _ _ hs
  have hp:(putRowK enc 4 (Sort.ahead w m) b 0 dk).cell? ⟨b',o,none⟩=some v:=by
   unfold putRowK
   rw [cell?_putRow_other _ _ _ _ _ _ (.inl hb')]
   exact hst
  unfold sortWorldK grow
  simp only [World.cell?] at hp ⊢
  rw [Array.getElem?_append_left (by unfold putRowK;rw [Go.Proofs.size_putRow];exact hlt)]
  exact hp
 have hC:CmpLays P g #[] enc 4 (Zbc l) b 0 (Array.range l.length).size w:=fun m os dk _ x y=>by
  have hgo:GOk E1 (wGm (sortWorldK enc 4 w b 0 m dk os)):=⟨fun k cs hk=>(hg.1 k cs (by rw [← hG1.1];exact hk)).mono fun b' o v hs=>Wcell m os dk b' o v hs,fun _=>hm1,fun k hk=>let ⟨t,p,e⟩:=hg.2.2 k (by rw [← hG1.2];exact hk);⟨t,p,Wcell m os dk _ _ _ e⟩⟩
  have agg:∀ z,V0 (wS (sortWorldK enc 4 w b 0 m dk os)) (.agg (gtT l z).cells) (.agg (enc z).toArray):=fun z=>
   .agg _ _ (by simp [encl,cl4]) fun i hi'=>by
    rw [cl4] at hi'
    obtain ⟨v,p,_,q2,q3,q4⟩:=encg z i hi'
    have e1:(enc z).toArray[i]'(by simp [encl];exact hi')=v:=by
     rw [List.getElem?_eq_getElem (by rw [encl];exact hi')] at q2
     simpa using q2
    have e2:(gtT l z).cells[i]'(by rw [cl4];exact hi')=p:=by
     rw [List.getElem?_eq_getElem (by rw [cl4];exact hi')] at q3
     simpa using q3
    rw [e1,e2]
    exact q4.mono fun b' o v hs=>Wcell m os dk b' o v hs
  have:=ZgT hfg hgo (hcmp _ _ (Xh hne x) (Xh hne y)) (vals:= #[.agg (enc x).toArray,.agg (enc y).toArray]) ⟨rfl,fun i h1 h2=>by
   match i,h1 with
   | 0,_=>exact agg x
   | 1,_=>exact agg y⟩
  exact this
 rw [Z2 hf]
 have call:=hK enc encl enc1 (Zbc l) (Zn4 hne hsz) b 0 cap (Array.range l.length) w (fun args w=>Z2 hfg args) hC hH hbl (by simpa using hlen)
 have er:(Array.range l.length).size=l.length:=by simp
 rw [er] at call
 simp only [Nat.zero_mul]
 refine Calls.mono call fun e w' ⟨he,n,os,hw⟩=>?_
 subst hw
 have hd':pdq (ltOf (Zbc l)) (Array.range l.length) 0 l.length (Lib.bitLen l.length) true true=XT l:=rfl
 rw [hd']
 have hds:=Zaq hne hsz
 let C':Array Value:=C.mapIdx fun k y=>if 0≤k∧k<0+(flatK enc 4 (XT l)).size then (flatK enc 4 (XT l))[k-0]! else y
 have hat:(putRowK enc 4 (Sort.ahead w n) b 0 (XT l)).heap[b]? = some (.cells C' T (0,0)):=by
  unfold putRowK putRow mapBlock
  simp only [heap_ahead,Array.getElem?_modify,hheap,if_true,Option.map_some,onCells,putCells,C',id_eq]
 have hoth:∀ k,k≠b→(putRowK enc 4 (Sort.ahead w n) b 0 (XT l)).heap[k]? = w.heap[k]? :=fun k hk=>by
  unfold putRowK putRow mapBlock
  simp only [heap_ahead,Array.getElem?_modify]
  rw [if_neg (Ne.symm hk)]
 have hnew:∀ i (h:i<l.length) j,j<4→∃ v p,C'[i*4+j]? = some v∧(gtT l (XT l)[i]!).cells[j]? = some p∧V0 gh.S p v:=fun i h j hj=>by
  have ht:i*4+j<(XT l).size*4:=by omega
  obtain ⟨v,p,q1,_,q3,q4⟩:=encg (XT l)[i]! j hj
  refine ⟨v,p,?_,q3,q4⟩
  have hlt:i*4+j<C.size:=by omega
  simp only [C',Array.getElem?_mapIdx]
  rw [Array.getElem?_eq_getElem hlt,Option.map_some,if_pos ⟨Nat.zero_le _,by rw [size_flatK];omega⟩,Nat.sub_zero,hflat _ _ ht,show (i*4+j) / 4=i by omega,show (i*4+j) % 4=j by omega,Array.getD_eq_getD_getElem?,q1]
  rfl
 have hsl:(Uk l).length=l.length:=by simp [Uk,hds]
 obtain ⟨j1,j2⟩:=Qr (w':=putRowK enc 4 (Sort.ahead w n) b 0 (XT l)) hi hro hb trivial hσ hS hoth (by unfold putRowK;rw [Go.Proofs.size_putRow];rfl) hat (fun a=>by unfold putRowK;rw [frozen?_putRow];rfl) (bo:= .cells 4 (Za (Uk l)))
  (fun es el h => by
    cases h
    refine ⟨C',T,rfl,fun i hi'=>?_,?_,fun i hi' j hj=>?_⟩
    · simp only [YU,List.getElem_map,cl4]
    · rw [Zb, hsl]
      have:C'.size=C.size:=by simp [C']
      omega
    · rw [Zb, hsl] at hi'
      have ee:(Za (Uk l))[i]'(by rw [Zb,hsl];exact hi')=(gtT l (XT l)[i]!).cells:=by
       simp only [YU,List.getElem_map,Uk]
       congr 2
       rw [getElem!_pos _ _ (by omega)]
       simp
      rw [ee,cl4] at hj
      obtain ⟨v,p,z1,z2,z3⟩:=hnew i hi' j hj
      refine ⟨v,z1,.pure _ _ ?_⟩
      have e2:(Za (Uk l))[i][j]=p:=by
       have:((Za (Uk l))[i])[j]? = some p:=by rw [ee];exact z2
       rw [List.getElem?_eq_getElem] at this
       simpa using this
      rw [e2]
      exact z3)
  (fun es h => by cases h) (fun c1 T1 m1 h => by
    cases h
    have:=hi.rm id b C T _ ⟨_,hb,trivial⟩ hσ hheap
    have hq:C'.size=C.size:=by simp [C']
    omega) ⟨rfl,rfl,rfl,fun _=>Nat.le_add_right _ _⟩
 obtain ⟨i1,i2⟩:=ZaY (w':=grow (putRowK enc 4 (Sort.ahead w n) b 0 (XT l)) os) j1 (fun k hk=>by unfold grow;rw [Array.getElem?_append_left hk]) (by unfold grow;simp) ⟨rfl,rfl,rfl,fun _=>Nat.le_refl _⟩
 exact ⟨_,he,gh,.tup _ _ rfl (fun i hi=>absurd hi (by simp)),i1,j2.trans hi i2 (by simp)⟩
end
def Xi (l:List Bs):Bool:=l.any fun s=> !ZB s
def WB (n:Int):Bool:=decide (n<0)||decide (9999<n)
def Tm.isB (t:Tm) (nm:Bs) (n:Nat):Bool:=match t with
 | .mk k m _ _ l=>decide (k=3)&&((m==nm)&&decide (l.length=n))
structure Cred where
 sub:Bs
 key:Tm
 iss:Bool
 pn:Bool
 per:List Bs
 en:Bool
 exc:List Bs
 ser:Int
 fr:Int
 till:Int
variable {x:Cred}
def Cred.cells (x:Cred):List PV:= .str x.sub::(x.key.cells++ [.bool x.iss,slV x.pn 1 (Y2 x.per),slV x.en 1 (Y2 x.exc),.int .i64 x.ser,.int .i64 x.fr,.int .i64 x.till])
def Cred.valid (x:Cred):Int:=
 if ZB x.sub=false then 2 else if x.key.key≠0 then x.key.key else if x.key.isB [112,107] 1=false then 10 else
 if 4<x.per.length∨4<x.exc.length then 3 else if Xi x.per=true∨Xi x.exc=true then 2 else
 if x.iss=false∧0<x.per.length+x.exc.length then 1 else if [x.ser,x.fr,x.till].any WB=true∨x.till<x.fr then 7 else 0
def Zly (l:List Int):List (List PV):=l.map fun n=>[.int .i64 n]
theorem Zkc (l:List Int):(Zly l).length=l.length:=by simp [Zly]
theorem Zkm {l:List Int} {x:Int} (h:l[i]? = some x):(Zly l)[i]? = some [.int .i64 x]:=by simp [Zly,h]
def Yn (nm:Bs) (s:Int):Tm:= .mk 2 nm s true []
theorem ZE (nm:Bs) (s:Int):(Yn nm s).cells= [.int .i64 2,.str nm,.int .i64 s,.nils]:=by
 show [PV.int .i64 2,.str nm,.int .i64 s,slV true 4 (Za [])]=_
 rw [show slV true 4 (Za [])= .nils from Zq 4]
def ZeG (a b:Tm):Tm:= .mk 3 [112,97,105,114] 0 true [a,b]
def XN:List Tm→Tm
 | []=> .zero
 | a :: r => match r with
   | []=>a
   | _::_=>ZeG a (XN r)
theorem ZiD (h:l[i]? = some a) (hi:i+1<l.length):XN (l.drop i)=ZeG a (XN (l.drop (i+1))):=by
 rw [Z0 h]
 cases hr:l.drop (i+1) with
 |nil=>have:=congrArg List.length hr;simp at this;omega
 |cons b r=>simp only [XN]
def endT:Tm:=Yn [101,110,100] 5
def YS (s:Bs):Tm:=XN ((ZG s).map (fun x=>Yn x 4)++ [endT])
def XS (l:List Bs):Tm:=XN (l.map YS++ [endT])
def Ub (n:Int):Tm:=Yn (110::Lib.itoa n) 4
def Zdm (b:Bool):Bs:=if b=true then [121,101,115] else [110,111]
def Cred.bodyL (x:Cred):List Tm:=[Yn [99,101,114,116] 5,YS x.sub,x.key,Yn (Zdm x.iss) 4,XS x.per,XS x.exc,Ub x.ser,Ub x.fr,Ub x.till]
def Cred.body (x:Cred):Tm:=XN x.bodyL
def Cred.term (x:Cred) (key:Tm):Tm:= .mk 3 [115,105,103,110] 0 true [x.body,key]
def Cred.issue (x:Cred) (key:Tm):Tm×Int:=if x.valid≠0 then (.zero,x.valid) else if key.key≠0 then (.zero,key.key) else if (x.term key).valid≠0 then (.zero,(x.term key).valid) else (x.term key,0)
theorem Va {a b:Int}:thn a b=0↔a=0∧b=0:=by
 unfold thn
 by_cases h:a=0
 · simp [h]
 · simp [h]
theorem ZbJ {a b:Int}:WY a b=0↔a=b:=⟨WO,fun h=>by subst h;simp [WY]⟩
theorem ZdM {a b:List UInt8}:Xx a b=0↔a=b:=by
 constructor
 · intro h
   simp only [Xx] at h
   split at h
   · omega
   · split at h
     · assumption
     · omega
 · rintro rfl
   simp [Xx,XW]
mutual
theorem UU:∀ a b:Tm,a.cmp b=0→a.cl=b.cl
 | .mk k nm s n l, .mk k' nm' s' n' l', h => by
   simp only [Tm.cmp,Va,ZbJ,ZdM] at h
   obtain ⟨_,h2,h3,h4,h5,h6⟩:=h
   subst h2 h3 h4
   simp only [Tm.cl]
   rw [ZbL l l' (by omega) h6]
theorem ZbL:∀ l l':List Tm,l.length=l'.length→UA l l'=0→clL l=clL l'
 | [],[],_,_=>rfl
 | [],_::_,h,_=>by simp at h
 |_::_,[],h,_=>by simp at h
 | a :: r, b :: r', h, h' => by
   simp only [UA,Va] at h'
   simp only [clL]
   rw [UU a b h'.1,ZbL r r' (by simpa using h) h'.2]
end
mutual
theorem YN:∀ t:Tm,t.cl.size=t.size
 | .mk _ _ _ _ l=>by simp only [Tm.cl,Tm.size,Zct l]
theorem Zct:∀ l:List Tm,Zx (clL l)=Zx l
 | []=>rfl
 |t::r=>by simp only [clL,Zx,YN t,Zct r]
end
mutual
theorem ZdN:∀ a b:Tm,a.cl=b.cl→a.cmp b=0
 | .mk k nm s n l, .mk k' nm' s' n' l', h => by
   simp only [Tm.cl,Tm.mk.injEq,true_and] at h
   obtain ⟨rfl,rfl,rfl,h5⟩:=h
   have h6:l.length=l'.length:=by have:=congrArg List.length h5;simpa [We] using this
   have h7:Zx l=Zx l':=by have:=congrArg Zx h5;simpa [Zct] using this
   simp only [Tm.cmp,Va,ZbJ,ZdM,h6,h7,true_and]
   exact Zbq l l' h5
theorem Zbq:∀ l l':List Tm,clL l=clL l'→UA l l'=0
 | [],_,_=>rfl
 |_::_,[],h=>by simp [clL] at h
 | a :: r, b :: r', h => by
   simp only [clL,List.cons.injEq] at h
   simp only [UA,Va]
   exact ⟨ZdN a b h.1,Zbq r r' h.2⟩
end
theorem ZU {b:Tm}:a.cmp b=0↔a.cl=b.cl:=⟨UU a b,ZdN a b⟩
theorem ZkL {b:Tm}:a.cmp b=0↔b.cmp a=0:=by rw [ZU,ZU];exact eq_comm
mutual
theorem XR:∀ t:Tm,t.cl.cl=t.cl
 | .mk _ _ _ _ l=>by simp only [Tm.cl,ZlB l]
theorem ZlB:∀ l:List Tm,clL (clL l)=clL l
 | []=>rfl
 |t::r=>by simp only [clL,XR t,ZlB r]
end
def Tm.nm:Tm→Bs
 | .mk _ nm _ _ _=>nm
theorem ZhF (t:Tm):t.cl.nm=t.nm:=by cases t;rfl
def Yp:Tm→Option (Tm×Tm)
 | .mk k nm _ _ l => match l with
   | [x,y]=>if k=3∧nm= [112,97,105,114] then some (x,y) else none
   | _=>none
theorem XJ {x:Tm} (h:Yp t=some (x,y)):∃ s b,t= .mk 3 [112,97,105,114] s b [x,y]:=by
 obtain ⟨k,nm,s,b,l⟩:=t
 simp only [Yp] at h
 split at h
 · split at h
   · rename_i hc
     obtain ⟨rfl,rfl⟩:=hc
     cases h
     exact ⟨s,b,rfl⟩
   · cases h
 · cases h
theorem ZaJ (t:Tm):Yp t.cl=(Yp t).map fun p=>(p.1.cl,p.2.cl):=by
 obtain ⟨k,nm,s,b,l⟩:=t
 simp only [Tm.cl,Yp]
 match l with
 | []=>rfl
 | [x]=>rfl
 | [x, y] =>
   simp only [clL]
   split<;>rfl
 |x::y::z::r=>rfl
def Vj:Nat→Tm→List Tm×Tm
 |0,t=>([],t)
 | n + 1, t => match Yp t with
   | some (x,y)=>(x::(Vj n y).1,(Vj n y).2)
   | none=>([],t)
def Tm.parts (t:Tm):List Tm×Tm:=Vj t.size t
theorem ZaS:∀ (n m:Nat) (t:Tm),t.size≤n→t.size≤m→Vj n t=Vj m t
 |0,_,t,h,_=>by have:=Y3 t;omega
 |_+1,0,t,_,h=>by have:=Y3 t;omega
 | n + 1, m + 1, t, h, h' => by
   simp only [Vj]
   cases hp:Yp t with
   | none=>rfl
   | some p =>
     obtain ⟨x,y⟩:=p
     obtain ⟨s,b,rfl⟩:=XJ hp
     simp only [Tm.size,Zx] at h h'
     have:=Y3 x
     simp only [ZaS n m y (by omega) (by omega)]
theorem VJ {x:Tm} (h:Yp t=some (x,y)):t.parts=(x::y.parts.1,y.parts.2):=by
 obtain ⟨s,b,rfl⟩:=XJ h
 have e:(Tm.mk 3 [112,97,105,114] s b [x,y]).size=(x.size+y.size)+1:=by simp only [Tm.size,Zx];omega
 unfold Tm.parts
 rw [e]
 simp only [Vj,h]
 rw [ZaS (x.size+y.size) y.size y (by omega) (Nat.le_refl _)]
theorem WU (h:Yp t=none):t.parts=([],t):=by
 obtain ⟨n,hn⟩:∃ n,t.size=n+1:=⟨t.size-1,by have:=Y3 t;omega⟩
 unfold Tm.parts
 rw [hn]
 simp only [Vj,h]
theorem ZdK:∀ (n:Nat) (t:Tm),Vj n t.cl=((Vj n t).1.map Tm.cl,(Vj n t).2.cl)
 |0,t=>rfl
 | n + 1, t => by
   simp only [Vj,ZaJ]
   cases Yp t with
   | none=>rfl
   | some p=>simp only [Option.map_some,ZdK n p.2,List.map_cons]
theorem Zgy (t:Tm):t.cl.parts=(t.parts.1.map Tm.cl,t.parts.2.cl):=by
 unfold Tm.parts
 rw [YN,ZdK]
theorem ZaG {e:Tm} (he:Yp e=none):∀ l:List Tm,(XN (l++ [e])).parts=(l,e)
 | []=>WU he
 | a :: r => by
   have:XN (a::r++ [e])=ZeG a (XN (r++ [e])):=by
    cases r<;>rfl
   rw [this,VJ (x:=a) (y:=XN (r++ [e])) rfl,ZaG he r]
def ZO (t:Tm):Bs×Bool:=(YW [46] (t.parts.1.map Tm.nm),decide (t.parts.2.cmp endT=0))
def ZN (t:Tm):List Bs×Bool:=(t.parts.1.map fun x=>(ZO x).1,decide (t.parts.2.cmp endT=0)&&t.parts.1.all fun x=>(ZO x).2)
def ZR (t:Tm):Bs×Bool:=if t.parts.2.cmp endT=0 then (YW [46] (t.parts.1.map Tm.nm),true) else ([],false)
def ZS (t:Tm):List Bs×Bool:=if t.parts.2.cmp endT=0 then (t.parts.1.map fun x=>(ZR x).1,t.parts.1.all fun x=>(ZR x).2) else ([],false)
theorem Ze2:∀ l:List Bs,YW [46] l=ZeM l
 | []=>rfl
 | [x]=>rfl
 | x :: y :: r => by
   have:=Ze2 (y::r)
   simp only [YW,ZeM] at this ⊢
   rw [this]
   rfl
theorem Zf8 (h:u.cl=v.cl):u.parts.1.map Tm.cl=v.parts.1.map Tm.cl∧u.parts.2.cl=v.parts.2.cl:=by
 have h1:=Zgy u
 rw [h,Zgy v] at h1
 simp only [Prod.mk.injEq] at h1
 exact ⟨h1.1.symm,h1.2.symm⟩
theorem Zn9 {l':List Tm} (h:l.map Tm.cl=l'.map Tm.cl):l.map Tm.nm=l'.map Tm.nm:=by
 have:=congrArg (List.map Tm.nm) h
 simpa [Function.comp_def,ZhF] using this
theorem ZaW (h:u.cl=v.cl):ZO u=ZO v:=by
 obtain ⟨h1,h2⟩:=Zf8 h
 have e:(u.parts.2.cmp endT=0)=(v.parts.2.cmp endT=0):=propext (by rw [ZU,ZU,h2])
 simp only [ZO,Zn9 h1,e]
theorem Zar {α:Type} {f:Tm→α} (hf:∀ u v:Tm,u.cl=v.cl→f u=f v):∀ {l l':List Tm},l.map Tm.cl=l'.map Tm.cl→l.map f=l'.map f
 | [],[],_=>rfl
 | [],_::_,h=>by simp at h
 |_::_,[],h=>by simp at h
 | a :: r, b :: r', h => by
   simp only [List.map_cons,List.cons.injEq] at h ⊢
   exact ⟨hf a b h.1,Zar hf h.2⟩
theorem VP (l:List Tm) (f:Tm→Bool):l.all f=(l.map f).all id:=by simp [Function.comp_def]
theorem ZbW (h:u.cl=v.cl):ZN u=ZN v:=by
 obtain ⟨h1,h2⟩:=Zf8 h
 have a1:=Zar (f:=fun x=>(ZO x).1) (fun u v h=>by rw [ZaW h]) h1
 have a2:=Zar (f:=fun x=>(ZO x).2) (fun u v h=>by rw [ZaW h]) h1
 have e:(u.parts.2.cmp endT=0)=(v.parts.2.cmp endT=0):=propext (by rw [ZU,ZU,h2])
 simp only [ZN,e,a1]
 rw [VP u.parts.1,VP v.parts.1,a2]
theorem Zfs (s:Bs):ZO (YS s)=(s,true):=by
 have h:=ZaG (e:=endT) rfl ((ZG s).map fun x=>Yn x 4)
 simp only [ZO,YS,h,List.map_map,Function.comp_def]
 rw [show ((ZG s).map fun x=>(Yn x 4).nm)=ZG s by simp [Yn,Tm.nm],Ze2,ZbC]
 simp [ZU]
theorem ZhW (l:List Bs):ZN (XS l)=(l,true):=by
 have h:=ZaG (e:=endT) rfl (l.map YS)
 simp only [ZN,XS,h,List.map_map,Function.comp_def,Zfs,List.all_map]
 simp [ZU]
theorem Zbp (h:(ZO t).2=true):ZR t=ZO t:=by
 simp only [ZO,decide_eq_true_eq] at h
 simp only [ZR,ZO,h,if_pos,decide_true]
theorem Zaz (h:(ZN t).2=true):ZS t=ZN t:=by
 simp only [ZN,Bool.and_eq_true,decide_eq_true_eq] at h
 obtain ⟨h1,h2⟩:=h
 have h3:∀ x,x∈t.parts.1→ZR x=ZO x:=fun x hx=>Zbp (List.all_eq_true.1 h2 x hx)
 simp only [ZS,ZN,h1,if_pos,decide_true,Bool.true_and]
 congr 1
 · exact List.map_congr_left fun x hx=>by rw [h3 x hx]
 · rw [VP t.parts.1 fun x => (ZR x).2, VP t.parts.1 fun x => (ZO x).2]
   congr 1
   exact List.map_congr_left fun x hx=>by rw [h3 x hx]
def Qs (s:Bs):Bs:=match s with
 |c::r=>if c=110 then r else c::r
 | []=>[]
def Vt (s:Bs):Int:=match Lib.atoiAll (Qs s) with
 | .ok v=>v
 |_=> -1
def Ug (s:Bs):Int:=((s.take 6).drop 1).foldl (fun n c=>10*n+(c.toNat:Int)-48) 0
theorem XX {a:Nat} (h:a<10):(UInt8.ofNat (48+a)).toNat=48+a:=by
 simp only [UInt8.toNat_ofNat']
 omega
theorem ZnA {u:Nat} (h:u<10):Lib.decDigits u= [UInt8.ofNat (48+u)]:=by rw [Lib.decDigits,dif_pos h]
theorem Zmt {u:Nat} (h:¬ u<10):Lib.decDigits u=Lib.decDigits (u / 10)++ [UInt8.ofNat (48+u % 10)]:=by rw [Lib.decDigits,dif_neg h]
theorem ZdC {u : Nat} (h : u ≤ 9999) : (∃ a, a < 10 ∧ u = a ∧ Lib.decDigits u = [UInt8.ofNat (48 + a)]) ∨
  (∃ a b,a<10∧b<10∧u=10*a+b∧Lib.decDigits u= [UInt8.ofNat (48+a),UInt8.ofNat (48+b)])∨
  (∃ a b c,a<10∧b<10∧c<10∧u=100*a+10*b+c∧Lib.decDigits u= [UInt8.ofNat (48+a),UInt8.ofNat (48+b),UInt8.ofNat (48+c)])∨
  (∃ a b c d,a<10∧b<10∧c<10∧d<10∧u=1000*a+100*b+10*c+d∧Lib.decDigits u= [UInt8.ofNat (48+a),UInt8.ofNat (48+b),UInt8.ofNat (48+c),UInt8.ofNat (48+d)]):=by
 by_cases h1:u<10
 · exact .inl ⟨u,h1,rfl,ZnA h1⟩
 · by_cases h2 : u < 100
   · exact .inr (.inl ⟨u / 10,u % 10,by omega,by omega,by omega,by rw [Zmt h1,ZnA (by omega)];rfl⟩)
   · by_cases h3 : u < 1000
     · exact .inr (.inr (.inl ⟨u / 10 / 10,u / 10 % 10,u % 10,by omega,by omega,by omega,by omega,by rw [Zmt h1,Zmt (by omega),ZnA (by omega)];rfl⟩))
     · exact .inr (.inr (.inr ⟨u / 10 / 10 / 10,u / 10 / 10 % 10,u / 10 % 10,u % 10,by omega,by omega,by omega,by omega,by omega,by rw [Zmt h1,Zmt (by omega),Zmt (by omega),ZnA (by omega)];rfl⟩))
theorem Wc {acc a:Nat} (ha:a<10) (hacc:acc≤100000):Lib.parseUint10 acc (UInt8.ofNat (48+a)::r)=Lib.parseUint10 (acc*10+a) r:=by
 simp only [Lib.parseUint10,XX ha]
 rw [if_pos ⟨by omega,by omega⟩,if_neg (by omega),if_neg (by omega),show 48+a-48=a by omega]
theorem Zaa {a u:Nat} (ha:a<10) (h:Lib.parseUint10 a r= .ok u) (hu:u≤99999):Lib.atoiAll (UInt8.ofNat (48+a)::r)= .ok (u:Int):=by
 have h1:Lib.parseMag (UInt8.ofNat (48+a)::r)= .ok u:=by
  unfold Lib.parseMag
  rw [if_neg (by simp),Wc ha (by omega)]
  simpa using h
 simp only [Lib.atoiAll,XX ha]
 rw [if_neg (by omega),h1]
 simp only []
 rw [if_neg (by omega),if_neg (by omega),if_neg (by omega)]
theorem Zb1 (h0:0≤n) (h1:n≤9999):Vt (110::Lib.itoa n)=n∧Ug (110::Lib.itoa n)=n:=by
 obtain ⟨u,rfl⟩:∃ u:Nat,n=(u:Int):=⟨n.toNat,by omega⟩
 have e:Lib.itoa (u:Int)=Lib.decDigits u:=by
  unfold Lib.itoa
  rw [if_neg (by omega)]
  rfl
 have ht:Qs (110::Lib.decDigits u)=Lib.decDigits u:=by simp [Qs]
 rw [e]
 unfold Vt Ug
 rw [ht]
 rcases ZdC (u:=u) (by omega) with ⟨a,ha,hu,hd⟩|⟨a,b,ha,hb,hu,hd⟩|⟨a,b,c,ha,hb,hc,hu,hd⟩|⟨a,b,c,d,ha,hb,hc,hdd,hu,hd⟩
 all_goals
  rw [hd]
  constructor
 · rw [Zaa (u:=u) ha (by rw [hu];rfl) (by omega)]
 · simp only [List.take_succ_cons, List.take_nil, List.drop_succ_cons, List.drop_zero, List.foldl_cons, List.foldl_nil, XX ha]
   omega
 · rw [Zaa (u:=u) ha (by rw [Wc hb (by omega),hu,show a*10+b=10*a+b by omega];rfl) (by omega)]
 · simp only [List.take_succ_cons, List.take_nil, List.drop_succ_cons, List.drop_zero, List.foldl_cons, List.foldl_nil, XX ha, XX hb]
   omega
 · rw [Zaa (u:=u) ha (by rw [Wc hb (by omega),Wc hc (by omega),hu,show (a*10+b)*10+c=100*a+10*b+c by omega];rfl) (by omega)]
 · simp only [List.take_succ_cons, List.take_nil, List.drop_succ_cons, List.drop_zero, List.foldl_cons, List.foldl_nil, XX ha, XX hb, XX hc]
   omega
 · rw [Zaa (u:=u) ha (by rw [Wc hb (by omega),Wc hc (by omega),Wc hdd (by omega),hu,show ((a*10+b)*10+c)*10+d=1000*a+100*b+10*c+d by omega];rfl) (by omega)]
 · simp only [List.take_succ_cons, List.take_nil, List.drop_succ_cons, List.drop_zero, List.foldl_cons, List.foldl_nil, XX ha, XX hb, XX hc, XX hdd]
   omega
def Cred.zero:Cred:=⟨[],.zero,false,true,[],true,[],0,0,0⟩
def Yi:Nat→Tm→Option (List Tm×Tm)
 |0,t=>some ([],t)
 | n + 1, t => match Yp t with
   | some (x, y) => match Yi n y with
     | some (l,r)=>some (x::l,r)
     | none=>none
   | none=>none
def Yz (rn:Tm→Bs×Bool) (rl:Tm→List Bs×Bool) (num:Bs→Int) (l:List Tm) (r:Tm):Cred×Bool:=match l with
 | [_,a,k,f,p,e,s,b]=>(⟨(rn a).1,k,f.nm== [121,101,115],true,(rl p).1,true,(rl e).1,num s.nm,num b.nm,num r.nm⟩,(rn a).2&&((rl p).2&&(rl e).2))
 |_=>(.zero,false)
def ZcH (rn:Tm→Bs×Bool) (rl:Tm→List Bs×Bool) (num:Bs→Int) (t:Tm):Cred×Int:=
 if t.valid≠0∨t.isB [115,105,103,110] 2=false then (.zero,2) else match t with
  | .mk _ _ _ _ l => match l with
    | [u, key] => match Yi 8 u with
      | none=>(.zero,2)
      | some (l, r) => if (Yz rn rl num l r).2 = false then (.zero, 2) else
        if ((Yz rn rl num l r).1.issue key).2≠0∨((Yz rn rl num l r).1.issue key).1.cmp t≠0 then (.zero,2) else ((Yz rn rl num l r).1,0)
    | _=>(.zero,2)
def Zf:=ZcH ZO ZN Vt
def Zdy:=ZcH ZR ZS Ug
theorem Zav:∀ (n:Nat) (t:Tm),Yi n t.cl=(Yi n t).map fun p=>(p.1.map Tm.cl,p.2.cl)
 |0,t=>rfl
 | n + 1, t => by
   simp only [Yi,ZaJ]
   cases Yp t with
   | none=>rfl
   | some p =>
     simp only [Option.map_some,Zav n p.2]
     cases Yi n p.2 with
     | none=>rfl
     | some q=>rfl
theorem Zbw (h:x.valid=0):(0≤x.ser∧x.ser≤9999)∧(0≤x.fr∧x.fr≤9999)∧(0≤x.till∧x.till≤9999):=by
 unfold Cred.valid at h
 split at h; · omega
 split at h; · contradiction
 split at h; · omega
 split at h; · omega
 split at h; · omega
 split at h; · omega
 split at h; · omega
 rename_i h7
 simp only [List.any_cons,List.any_nil,WB,Bool.or_false,Bool.or_eq_true,decide_eq_true_eq] at h7
 omega
theorem Zfu (b:Bool):(Zdm b== [121,101,115])=b:=by cases b<;>rfl
theorem U7 (hv : x.valid = 0) (hu : u.cl = x.body.cl) : ∃ l r k, Yi 8 u = some (l, r) ∧ k.cl = x.key.cl ∧ Yz ZO ZN Vt l r = (⟨x.sub, k, x.iss, true, x.per, true, x.exc, x.ser, x.fr, x.till⟩, true) ∧
  Yz ZR ZS Ug l r=(⟨x.sub,k,x.iss,true,x.per,true,x.exc,x.ser,x.fr,x.till⟩,true)∧(u=x.body→k=x.key):=by
 have h1:=Zav 8 u
 have h2:Yi 8 x.body=some ([Yn [99,101,114,116] 5,YS x.sub,x.key,Yn (Zdm x.iss) 4,XS x.per,XS x.exc,Ub x.ser,Ub x.fr],Ub x.till):=rfl
 rw [hu,Zav 8 x.body,h2] at h1
 simp only [Option.map_some,List.map_cons,List.map_nil] at h1
 cases hf:Yi 8 u with
 |none=>rw [hf] at h1;cases h1
 | some q =>
   obtain ⟨l,r⟩:=q
   rw [hf] at h1
   simp only [Option.map_some,Option.some.injEq,Prod.mk.injEq] at h1
   obtain ⟨h3,h4⟩:=h1
   rcases l with _|⟨a0,_|⟨a1,_|⟨a2,_|⟨a3,_|⟨a4,_|⟨a5,_|⟨a6,_|⟨a7,_|⟨a8,l⟩⟩⟩⟩⟩⟩⟩⟩⟩
   all_goals first
    | (simp at h3;done)
    | skip
   · simp only [List.map_cons, List.map_nil, List.cons.injEq, and_true] at h3
     obtain ⟨-,e1,e2,e3,e4,e5,e6,e7⟩:=h3
     have f1:=ZaW e1
     have f4:=ZbW e4
     have f5:=ZbW e5
     rw [Zfs] at f1
     rw [ZhW] at f4 f5
     have g1:=Zbp (t:=a1) (by rw [← f1])
     have g4:=Zaz (t:=a4) (by rw [← f4])
     have g5:=Zaz (t:=a5) (by rw [← f5])
     rw [← f1] at g1
     rw [← f4] at g4
     rw [← f5] at g5
     have n3:a3.nm=Zdm x.iss:=by rw [← ZhF a3, ← e3];rfl
     have n6:a6.nm=110::Lib.itoa x.ser:=by rw [← ZhF a6, ← e6];rfl
     have n7:a7.nm=110::Lib.itoa x.fr:=by rw [← ZhF a7, ← e7];rfl
     have n8:r.nm=110::Lib.itoa x.till:=by rw [← ZhF r, ← h4];rfl
     obtain ⟨⟨v1,v2⟩,⟨v3,v4⟩,v5,v6⟩:=Zbw hv
     have b6:=Zb1 v1 v2
     have b7:=Zb1 v3 v4
     have b8:=Zb1 v5 v6
     refine ⟨_,_,a2,rfl,e2.symm,?_,?_,fun e=>?_⟩
     · simp only [Yz, ← f1, ← f4, ← f5,n3,n6,n7,n8,Zfu,b6,b7,b8,Bool.and_self]
     · simp only [Yz,g1,g4,g5,n3,n6,n7,n8,Zfu,b6,b7,b8,Bool.and_self]
     · subst e
       rw [h2] at hf
       simp only [Option.some.injEq,Prod.mk.injEq,List.cons.injEq] at hf
       exact hf.1.2.2.1.symm
theorem Q0 {key:Tm} (h:(x.issue key).2=0):x.valid=0∧key.key=0∧(x.term key).valid=0∧(x.issue key).1=x.term key:=by
 unfold Cred.issue at h ⊢
 split at h; · contradiction
 split at h; · contradiction
 split at h; · contradiction
 rename_i h1 h2 h3
 rw [if_neg h1,if_neg h2,if_neg h3]
 exact ⟨by simpa using h1,by simpa using h2,by simpa using h3,rfl⟩
theorem Zeh {key key':Tm} {nm:Bs} {s:Int} (h:(x.term key).cmp (.mk k nm s b [u,key'])=0):u.cl=x.body.cl:=by
 have:=UU _ _ h
 simp only [Cred.term,Tm.cl,Tm.mk.injEq,clL,List.cons.injEq] at this
 exact this.2.2.2.2.1.symm
theorem Zhx (t:Tm):Zf t=Zdy t:=by
 unfold Zf Zdy ZcH
 split
 · rfl
 · obtain ⟨k, nm, s, b, kz⟩ := t
   simp only []
   match kz with
   | []=>rfl
   | [_]=>rfl
   | _::_::_::_=>rfl
   | [u, key] =>
     simp only []
     cases hf:Yi 8 u with
     | none=>rfl
     | some q =>
       obtain ⟨l,r⟩:=q
       simp only []
       have key1:∀ c:Cred×Bool,c=Yz ZO ZN Vt l r∨c=Yz ZR ZS Ug l r→(c.1.issue key).2=0→(c.1.issue key).1.cmp (.mk k nm s b [u,key])=0→Yz ZO ZN Vt l r=Yz ZR ZS Ug l r:=fun c _ h1 h2=>by
        obtain ⟨i1,i2,i3,i4⟩:=Q0 h1
        rw [i4] at h2
        obtain ⟨l',r',k',e1,_,e2,e3,_⟩:=U7 i1 (Zeh h2)
        rw [hf] at e1
        cases e1
        rw [e2,e3]
       by_cases hP:((Yz ZO ZN Vt l r).1.issue key).2=0∧((Yz ZO ZN Vt l r).1.issue key).1.cmp (.mk k nm s b [u,key])=0
       · rw [key1 _ (.inl rfl) hP.1 hP.2]
       · by_cases hR : ((Yz ZR ZS Ug l r).1.issue key).2 = 0 ∧ ((Yz ZR ZS Ug l r).1.issue key).1.cmp (.mk k nm s b [u, key]) = 0
         · rw [key1 _ (.inr rfl) hR.1 hR.2]
         · have hP' : ((Yz ZO ZN Vt l r).1.issue key).2 ≠ 0 ∨ ((Yz ZO ZN Vt l r).1.issue key).1.cmp (.mk k nm s b [u, key]) ≠ 0 := Decidable.not_and_iff_or_not.1 hP
           have hR':((Yz ZR ZS Ug l r).1.issue key).2≠0∨((Yz ZR ZS Ug l r).1.issue key).1.cmp (.mk k nm s b [u,key])≠0:=Decidable.not_and_iff_or_not.1 hR
           rw [if_pos hP',if_pos hR']
           split<;>split<;>rfl
theorem ZgO {key:Tm} (h:(x.issue key).2=0):Zf (x.issue key).1=({x with pn:=true,en:=true},0):=by
 obtain ⟨h1,h2,h3,h4⟩:=Q0 h
 rw [h4]
 obtain ⟨l,r,k,e1,_,e2,_,e4⟩:=U7 h1 rfl
 have e4:=e4 rfl
 subst e4
 unfold Zf ZcH
 rw [if_neg (by rw [h3];simp [Tm.isB,Cred.term])]
 simp only [Cred.term,e1,e2]
 have h5:Cred.issue ⟨x.sub,x.key,x.iss,true,x.per,true,x.exc,x.ser,x.fr,x.till⟩ key=x.issue key:=rfl
 rw [if_neg (by simp),if_neg (by rw [h5,h,h4];simp [ZU,Cred.term])]
section
variable {E:Env} {P:Program}
theorem QN (hf : FnOk P f fn c) (hmono : E.mono = false) {r : PV}
  (h:∀ (g:Gh) (w:World) (vals:Array Value),(∀ b o v,g.S b o=some v→w.cell? ⟨b,o,none⟩=some v)→GOk E g→VL g args vals.toList→∃ v,V0 g.S r v∧Calls P f vals w fun e w'=>e= .returned v∧Below w.heap.size w w') :
  ∀ H,CallOk E P f args H r H:=by
 intro H g w vals hi hg hv
 obtain ⟨v,hv0,hc⟩:=h g w vals hi.st hg hv
 rw [Z2 hf]
 refine Calls.mono hc fun e w' ⟨h1,hb⟩=>?_
 obtain ⟨j1,j2⟩:=ZaY hi (fun k hk=>hb.block k hk) hb.size ⟨hb.os,hb.output,hb.tape,fun hm=>absurd (hg.2.1 hm) (by rw [hmono];simp)⟩
 exact ⟨v,h1,g,.pure _ _ hv0,j1,j2⟩
theorem Zo0 {k:Nat} (hg:GOk E g) (hG:E.G k=some cs) {w:World} (hst:∀ b o v,g.S b o=some v→w.cell? ⟨b,o,none⟩=some v) {kk:IntKind} {j:Nat} (h:cs[j]? = some (.int kk n)):w.cell? ⟨k,j,none⟩=some (.int kk n):=by
 obtain ⟨b,o,vals,h1,h2,h3⟩:=(V.pure (g:=g) _ _ (hg.1 k cs hG)).fptr_inv
 simp only [Value.pointer.injEq,Option.some.injEq,Addr.mk.injEq,and_true] at h3
 obtain ⟨rfl,h3⟩:=h3
 obtain rfl:o=0:=by omega
 obtain ⟨hj,hx⟩:=List.getElem?_eq_some_iff.1 h
 have e:=h2 j hj
 rw [hx] at e
 have h4:=h1 j hj
 cases hv:vals j with
 | int k' n' =>
   rw [hv] at e h4
   cases e
   simpa using hst _ _ _ h4
 |_=>rw [hv] at e;cases e
end
open Go.Sort in
theorem Zhd (w:World) (k:Nat) (os:Array Obj):Below w.heap.size w (grow (w.drewN k) os):=by
 refine ⟨rfl,rfl,rfl,by simp [grow,World.drewN],fun j hj=>?_⟩
 simp only [grow,World.drewN]
 rw [Array.getElem?_append_left hj]
theorem Vr:∀ a b:List Tm,Zx (a++b)=Zx a+Zx b
 | [],b=>by simp [Zx]
 |t::a,b=>by simp only [List.cons_append,Zx,Vr a b];omega
theorem Q8:∀ l:List Tm,l≠ []→(XN l).size+1=Zx l+l.length
 | [],h=>absurd rfl h
 | [a],_=>by simp [XN,Zx]
 | a :: b :: r, _ => by
   have:=Q8 (b::r) (by simp)
   simp only [XN,ZeG,Tm.size,Zx,List.length_cons] at this ⊢
   omega
theorem Zgk:∀ {l:List Tm},l≠ []→(∀ t,t∈l→t.Ok)→(XN l).Ok
 | [],h,_=>absurd rfl h
 | [a],_,h=>h a (by simp)
 | a :: b :: r, _, h => by
   have h1:=Zgk (l:=b::r) (by simp) (fun t ht=>h t (by simp [List.mem_cons.1 ht]))
   refine .mk (by decide) (by decide) (by simp [maxLen]) (by simp [maxLen]) fun t ht=>?_
   rcases List.mem_cons.1 ht with rfl|ht
   · exact h _ (by simp)
   · rw [List.mem_singleton.1 ht];exact h1
theorem Qm {nm:Bs} {s:Int} (h:nm.length≤1000000) (h0:0≤s) (h1:s≤5):(Yn nm s).Ok:=
 .mk (by decide) (by
  rcases (show s=0∨s=1∨s=2∨s=3∨s=4∨s=5 by omega) with rfl|rfl|rfl|rfl|rfl|rfl<;>decide) (by simp only [maxLen];omega) (by simp [maxLen]) fun t ht=>absurd ht (by simp)
theorem ZfM:endT.Ok:=Qm (by decide) (by decide) (by decide)
theorem ZbO (s:Int):∀ l:List Bs,Zx (l.map fun x=>Yn x s)=l.length
 | []=>rfl
 | x :: r => by
   have:=ZbO s r
   have e:(Yn x s).size=1:=rfl
   simp only [List.map_cons,Zx,e,List.length_cons]
   omega
theorem UX (h:ZB s=true):(ZG s).length≤4∧∀ x,x∈ZG s→x.length≤8:=by
 simp only [ZB,Bool.and_eq_true,decide_eq_true_eq] at h
 refine ⟨h.1,fun x hx=>?_⟩
 have:=List.all_eq_true.1 h.2 x hx
 cases x with
 |nil=>simp
 | cons c r =>
   simp only [Yx,Bool.and_eq_true,decide_eq_true_eq] at this
   simp only [List.length_cons]
   omega
theorem ZdU (h:ZB s=true):(YS s).size≤9:=by
 have h1:=Q8 ((ZG s).map (fun x=>Yn x 4)++ [endT]) (by simp)
 have h2:=(UX h).1
 have h3:(YS s).size=(XN ((ZG s).map (fun x=>Yn x 4)++ [endT])).size:=rfl
 have e:endT.size=1:=rfl
 simp only [Vr,ZbO,List.length_append,List.length_map,List.length_cons,List.length_nil,Zx,e] at h1
 omega
theorem Zjy (h:ZB s=true):(YS s).Ok:=by
 refine Zgk (by simp) fun t ht=>?_
 rcases List.mem_append.1 ht with ht|ht
 · obtain ⟨x, hx, rfl⟩ := List.mem_map.1 ht
   exact Qm (by have:=(UX h).2 x hx;omega) (by decide) (by decide)
 · rw [List.mem_singleton.1 ht];exact ZfM
theorem Zc0:∀ {l:List Bs},(∀ s,s∈l→ZB s=true)→Zx (l.map YS)≤9*l.length
 | [],_=>by simp [Zx]
 | s :: r, h => by
   have h1:=ZdU (h s (by simp))
   have h2:=Zc0 (l:=r) (fun x hx=>h x (by simp [hx]))
   simp only [List.map_cons,Zx,List.length_cons]
   omega
theorem Zbt {l:List Bs} (h:∀ s,s∈l→ZB s=true) (hl:l.length≤4):(XS l).size≤41:=by
 have h1:=Q8 (l.map YS++ [endT]) (by simp)
 have h2:=Zc0 h
 have h3:(XS l).size=(XN (l.map YS++ [endT])).size:=rfl
 have e:endT.size=1:=rfl
 simp only [Vr,List.length_append,List.length_map,List.length_cons,List.length_nil,Zx,e] at h1
 omega
theorem Zfk {l:List Bs} (h:∀ s,s∈l→ZB s=true):(XS l).Ok:=by
 refine Zgk (by simp) fun t ht=>?_
 rcases List.mem_append.1 ht with ht|ht
 · obtain ⟨x, hx, rfl⟩ := List.mem_map.1 ht
   exact Zjy (h x hx)
 · rw [List.mem_singleton.1 ht];exact ZfM
theorem U8 (h0:0≤n) (h1:n≤9999):(Lib.itoa n).length≤4:=by
 obtain ⟨u,rfl⟩:∃ u:Nat,n=(u:Int):=⟨n.toNat,by omega⟩
 have e:Lib.itoa (u:Int)=Lib.decDigits u:=by
  unfold Lib.itoa
  rw [if_neg (by omega)]
  rfl
 rw [e]
 rcases ZdC (u:=u) (by omega) with ⟨a,ha,hu,hd⟩|⟨a,b,ha,hb,hu,hd⟩|⟨a,b,c,ha,hb,hc,hu,hd⟩|⟨a,b,c,d,ha,hb,hc,hdd,hu,hd⟩<;>rw [hd]<;>simp
theorem Ziz (h0:0≤n) (h1:n≤9999):(Ub n).Ok:=Qm (by have:=U8 h0 h1;simp;omega) (by decide) (by decide)
structure CredOk (x:Cred):Prop where
 sub:ZB x.sub=true
 per:∀ s,s∈x.per→ZB s=true
 exc:∀ s,s∈x.exc→ZB s=true
 pl:x.per.length≤4
 el:x.exc.length≤4
 n1:0≤x.ser∧x.ser≤9999
 n2:0≤x.fr∧x.fr≤9999
 n3:0≤x.till∧x.till≤9999
theorem Zdf {l:List Bs} (h:¬ Xi l=true):∀ s,s∈l→ZB s=true:=fun s hs=>by
 cases hd:ZB s with
 |true=>rfl
 |false=>exact absurd (List.any_eq_true.2 ⟨s,hs,by simp [hd]⟩) h
theorem Zcf (h:x.valid=0):CredOk x:=by
 obtain ⟨a,b,c⟩:=Zbw h
 unfold Cred.valid at h
 split at h; · omega
 split at h; · contradiction
 split at h; · omega
 split at h; · omega
 split at h; · omega
 rename_i h1 h2 h3 h4 h5
 exact ⟨by simpa using h1,Zdf fun e=>h5 (.inl e),Zdf fun e=>h5 (.inr e),by omega,by omega,a,b,c⟩
theorem Zi4 (h:CredOk x):x.body.size≤x.key.size+104:=by
 have h1:=Q8 x.bodyL (by simp [Cred.bodyL])
 have h2:=ZdU h.sub
 have h3:=Zbt h.per h.pl
 have h4:=Zbt h.exc h.el
 have h5:x.body.size=(XN x.bodyL).size:=rfl
 simp only [Cred.bodyL,Zx,List.length_cons,List.length_nil] at h1
 have a1:∀ nm s,(Yn nm s).size=1:=fun _ _=>rfl
 have a2:∀ n,(Ub n).size=1:=fun _=>rfl
 simp only [a1,a2] at h1
 simp only [Cred.bodyL] at h5
 omega
theorem ZmN (h:CredOk x) (hk:x.key.Ok):x.body.Ok:=by
 refine Zgk (by simp [Cred.bodyL]) fun t ht=>?_
 simp only [Cred.bodyL,List.mem_cons,List.not_mem_nil,or_false] at ht
 rcases ht with rfl|rfl|rfl|rfl|rfl|rfl|rfl|rfl|rfl
 · exact Qm (by decide) (by decide) (by decide)
 · exact Zjy h.sub
 · exact hk
 · exact Qm (by cases x.iss<;>decide) (by decide) (by decide)
 · exact Zfk h.per
 · exact Zfk h.exc
 · exact Ziz h.n1.1 h.n1.2
 · exact Ziz h.n2.1 h.n2.2
 · exact Ziz h.n3.1 h.n3.2
theorem Zaw {key:Tm} (h:CredOk x):(x.term key).size≤x.key.size+key.size+105:=by
 have:=Zi4 h
 simp only [Cred.term,Tm.size,Zx]
 omega
theorem ZeV {key:Tm} (h:CredOk x) (hk:x.key.Ok) (hk2:key.Ok):(x.term key).Ok:=by
 refine .mk (by decide) (by decide) (by simp [maxLen]) (by simp [maxLen]) fun t ht=>?_
 rcases List.mem_cons.1 ht with rfl|ht
 · exact ZmN h hk
 · rw [List.mem_singleton.1 ht];exact hk2
theorem ZcE (t:Tm):t.isB [112,97,105,114] 2=(Yp t).isSome:=by
 obtain ⟨k,nm,s,b,l⟩:=t
 simp only [Tm.isB,Yp]
 match l with
 | []=>simp
 | [x]=>simp
 | [x, y] =>
   by_cases h1:k=3
   · by_cases h2 : nm = [112, 97, 105, 114]
     · simp [h1,h2]
     · simp [h1,h2]
   · simp [h1]
 |x::y::z::r=>simp
def Tm.within (x t:Tm):Prop:=x.size≤t.size∧∀ y,y∈x.all→y∈t.all
theorem Up (t:Tm):t.within t:=⟨Nat.le_refl _,fun _ h=>h⟩
theorem Yl {b c:Tm} (h:a.within b) (h':b.within c):a.within c:=⟨Nat.le_trans h.1 h'.1,fun y hy=>h'.2 y (h.2 y hy)⟩
theorem Vc (t:Tm):t∈t.all:=by obtain ⟨k,nm,s,b,l⟩:=t;simp [Tm.all]
theorem XH {nm:Bs} {s:Int} {x:Tm} (h:x∈l):x.within (.mk k nm s b l):=by
 refine ⟨by have:=XB h;simp only [Tm.size];omega,fun y hy=>?_⟩
 simp only [Tm.all,List.mem_cons]
 refine .inr ?_
 induction l with
 |nil=>simp at h
 | cons a r ih =>
   simp only [UB,List.mem_append]
   rcases List.mem_cons.1 h with rfl|h
   · exact .inl hy
   · exact .inr (ih h)
theorem Tm.Ok.part {x:Tm} (ht:t.Ok) (h:x.within t):x.Ok:=(ZiC ht x (h.2 x (Vc x))).1
theorem Y0 {x:Tm} (h:Yp t=some (x,y)):x.within t∧y.within t∧x.size+y.size+1=t.size:=by
 obtain ⟨s,b,rfl⟩:=XJ h
 refine ⟨XH (by simp),XH (by simp),?_⟩
 simp only [Tm.size,Zx]
 omega
theorem Qc:∀ (n:Nat) (t:Tm),t.size≤n→(∀ x,x∈t.parts.1→x.within t)∧t.parts.2.within t∧Zx t.parts.1+t.parts.1.length+t.parts.2.size=t.size
 |0,t,h=>by have:=Y3 t;omega
 | n + 1, t, h => by
   cases hp:Yp t with
   | none =>
     rw [WU hp]
     exact ⟨fun x hx=>by simp at hx,Up t,by simp [Zx]⟩
   | some p =>
     obtain ⟨x,y⟩:=p
     obtain ⟨w1,w2,w3⟩:=Y0 hp
     have:=Y3 x
     obtain ⟨i1,i2,i3⟩:=Qc n y (by omega)
     rw [VJ hp]
     refine ⟨fun z hz=>?_,Yl i2 w2,?_⟩
     · rcases List.mem_cons.1 hz with rfl | hz
       · exact w1
       · exact Yl (i1 z hz) w2
     · simp only [Zx, List.length_cons]
       omega
theorem Xt {x:Tm} (h:x∈t.parts.1):x.within t:=(Qc t.size t (Nat.le_refl _)).1 x h
theorem Zbn (t:Tm):t.parts.2.within t:=(Qc t.size t (Nat.le_refl _)).2.1
theorem Wj (t:Tm):t.parts.1.length+1≤t.size:=by
 have:=(Qc t.size t (Nat.le_refl _)).2.2
 have:=Y3 t.parts.2
 omega
def Small (t:Tm):Prop:=t.size≤400∧∀ x,x∈t.all→x.nm.length≤24
theorem Small.part {x:Tm} (ht:Small t) (h:x.within t):Small x:=⟨Nat.le_trans h.1 ht.1,fun y hy=>ht.2 y (h.2 y hy)⟩
theorem ZhL {nm:Bs} (h:Vs nm=true):nm.length≤24:=by
 cases nm with
 |nil=>simp
 | cons c r =>
   simp only [Vs,Bool.and_eq_true,decide_eq_true_eq] at h
   exact h.1
mutual
theorem ZaF:∀ t:Tm,t.nodes=0→∀ x,x∈t.all→x.nm.length≤24
 | .mk k nm s b l, h, x, hx => by
   simp only [Tm.nodes] at h
   split at h
   · rename_i hc;exact absurd h hc
   · rename_i hc
     simp only [Tm.all,List.mem_cons] at hx
     rcases hx with rfl|hx
     · have hc : Ve k nm s l.length = 0 := by simpa using hc
       unfold Ve at hc
       split at hc; · omega
       split at hc; · omega
       rename_i h2
       have h2:Vs nm=true:=by simpa using h2
       exact ZhL h2
     · exact QD l h x hx
theorem QD:∀ l:List Tm,XC l=0→∀ x,x∈UB l→x.nm.length≤24
 | [],_,x,hx=>by simp [UB] at hx
 | t :: r, h, x, hx => by
   simp only [XC] at h
   split at h
   · rename_i hc;exact absurd h hc
   · rename_i hc
     simp only [UB,List.mem_append] at hx
     rcases hx with hx|hx
     · exact ZaF t (by simpa using hc) x hx
     · exact QD r h x hx
end
theorem ZaP (h:t.valid=0):Small t:=by
 unfold Tm.valid at h
 split at h
 · contradiction
 · rename_i hc
   split at h
   · omega
   · rename_i hd
     exact ⟨by omega,ZaF t (by simpa using hc)⟩
theorem Za0 (sep:Bs) (K:Nat):∀ l:List Bs,(∀ s,s∈l→s.length≤K)→(YW sep l).length≤(K+sep.length)*l.length
 | [],_=>by simp [YW]
 | [x], h => by
   have:=h x (by simp)
   simp only [YW,List.length_cons,List.length_nil,Nat.zero_add,Nat.mul_one]
   omega
 | x :: y :: r, h => by
   have h1:=Za0 sep K (y::r) (fun s hs=>h s (by simp [List.mem_cons.1 hs]))
   have h2:=h x (by simp)
   simp only [YW,List.length_append,List.length_cons] at h1 ⊢
   rw [Nat.mul_succ]
   omega
theorem WS (h:Small t):(ZO t).1.length≤10000:=by
 have h1:=Za0 [46] 24 (t.parts.1.map Tm.nm) (fun s hs=>by
  obtain ⟨x,hx,rfl⟩:=List.mem_map.1 hs
  exact h.2 x ((Xt hx).2 x (Vc x)))
 have h2:=Wj t
 have h3:=h.1
 simp only [List.length_map,List.length_cons,List.length_nil] at h1
 simp only [ZO]
 omega
theorem ZaR (h:Small t):(ZR t).1.length≤10000:=by
 have:=WS h
 simp only [ZR,ZO] at this ⊢
 split
 · exact this
 · simp
theorem Zah (h:Small t):(ZN t).1.length≤400∧∀ s,s∈(ZN t).1→s.length≤10000:=by
 have h2:=Wj t
 have h3:=h.1
 refine ⟨by simp only [ZN,List.length_map];omega,fun s hs=>?_⟩
 simp only [ZN] at hs
 obtain ⟨x,hx,rfl⟩:=List.mem_map.1 hs
 exact WS (h.part (Xt hx))
theorem QI (h:Small t):(ZS t).1.length≤400∧∀ s,s∈(ZS t).1→s.length≤10000:=by
 have h2:=Wj t
 have h3:=h.1
 simp only [ZS]
 split
 · refine ⟨by simp only [List.length_map]; omega, fun s hs => ?_⟩
   obtain ⟨x,hx,rfl⟩:=List.mem_map.1 hs
   exact ZaR (h.part (Xt hx))
 · exact ⟨by simp,fun s hs=>by simp at hs⟩
theorem Zi1:∀ l:List Bs,Zd8 (Y2 l)=some l
 | []=>rfl
 | x :: r => by
   have:=Zi1 r
   simp only [Y2,List.map_cons,Zd8] at this ⊢
   rw [this]
theorem Zb3 (h:t.isB [115,105,103,110] 2=true):∃ s b u key,t= .mk 3 [115,105,103,110] s b [u,key]:=by
 obtain ⟨k,nm,s,b,l⟩:=t
 simp only [Tm.isB,Bool.and_eq_true,decide_eq_true_eq,beq_iff_eq] at h
 obtain ⟨rfl,rfl,hl⟩:=h
 match l,hl with
 | [u,key],_=>exact ⟨s,b,u,key,rfl⟩
theorem Xe {key:Tm} (hk:x.key.Ok) (hk2:key.Ok):(x.issue key).1.Ok∧(x.issue key).1.size≤x.key.size+key.size+105:=by
 have hz:Tm.zero.size≤x.key.size+key.size+105:=by
  have:Tm.zero.size=1:=rfl
  omega
 unfold Cred.issue
 split; · exact ⟨Tm.ok_zero,hz⟩
 rename_i h1
 split; · exact ⟨Tm.ok_zero,hz⟩
 split; · exact ⟨Tm.ok_zero,hz⟩
 have hok:=Zcf (x:=x) (by simpa using h1)
 exact ⟨ZeV hok hk hk2,Zaw hok⟩
theorem Uy {n : Nat} : Yi (n + 1) u = match Yp u with
  | some (x, y) => match Yi n y with
    | some (l,r)=>some (x::l,r)
    | none=>none
  | none=>none:=rfl
def QT (rn:Tm→Bs×Bool) (rl:Tm→List Bs×Bool) (num:Bs→Int) (t key:Tm) (q:Option (List Tm×Tm)):Cred×Int:=match q with
 |none=>(.zero,2)
 | some (l, r) => if (Yz rn rl num l r).2 = false then (.zero, 2) else
   if ((Yz rn rl num l r).1.issue key).2≠0∨((Yz rn rl num l r).1.issue key).1.cmp t≠0 then (.zero,2) else ((Yz rn rl num l r).1,0)
theorem Zes (rn : Tm → Bs × Bool) (rl : Tm → List Bs × Bool) (num : Bs → Int) {s : Int} {key : Tm} (h : (Tm.mk 3 [115, 105, 103, 110] s b [u, key]).valid = 0) :
  ZcH rn rl num (.mk 3 [115,105,103,110] s b [u,key])=QT rn rl num (.mk 3 [115,105,103,110] s b [u,key]) key (Yi 8 u):=by
 unfold ZcH
 rw [if_neg (by rw [h];simp [Tm.isB])]
 rfl
theorem ZeZ (rn:Tm→Bs×Bool) (rl:Tm→List Bs×Bool) (num:Bs→Int) (h:t.valid≠0∨t.isB [115,105,103,110] 2=false):ZcH rn rl num t=(.zero,2):=by
 unfold ZcH
 rw [if_pos h]
theorem Qj {rn : Tm → Bs × Bool} {rl : Tm → List Bs × Bool} {num : Bs → Int} {key : Tm} {r : Tm} {X : Cred} {B : Bool} (h : Yz rn rl num l r = (X, B)) :
  (B=false→QT rn rl num t key (some (l,r))=(.zero,2))∧(B=true→(X.issue key).2≠0→QT rn rl num t key (some (l,r))=(.zero,2))∧
  (B=true→(X.issue key).1.cmp t≠0→QT rn rl num t key (some (l,r))=(.zero,2))∧(B=true→(X.issue key).2=0→(X.issue key).1.cmp t=0→QT rn rl num t key (some (l,r))=(X,0)):=by
 simp only [QT,h]
 refine ⟨fun hB=>by rw [if_pos hB],fun hB h1=>?_,fun hB h1=>?_,fun hB h1 h2=>?_⟩
 · rw [if_neg (by rw [hB];simp),if_pos (.inl h1)]
 · rw [if_neg (by rw [hB];simp),if_pos (.inr h1)]
 · rw [if_neg (by rw [hB];simp),if_neg (by rw [h1,h2];simp)]
theorem Zko (h:u.cmp endT=0):Yp u=none:=by
 have h1:=ZaJ u
 rw [UU _ _ h] at h1
 have h2:Yp endT.cl=none:=rfl
 rw [h2] at h1
 cases e:Yp u with
 |none=>rfl
 |some p=>rw [e] at h1;cases h1
theorem ZbU (x:Bs):∀ {l:List Bs},l≠ []→YW [46] (l++ [x])=(YW [46] l++ [46])++x
 | [],h=>absurd rfl h
 | [a],_=>by simp [YW]
 | a :: b :: r, _ => by
   have:=ZbU x (l:=b::r) (by simp)
   simp only [List.cons_append,YW] at this ⊢
   rw [this]
   simp
theorem ZgS {l:List Bs}:∀ {i:Nat},(YW [46] (l.take i)).length≤(YW [46] l).length:=by
 induction l with
 |nil=>intro i;simp
 | cons a r ih =>
   intro i
   cases i with
   | zero=>simp [YW]
   | succ i =>
     simp only [List.take_succ_cons]
     cases r with
     | nil=>simp
     | cons b r =>
       cases i with
       | zero=>simp [YW]
       | succ i =>
         have:=ih (i:=i+1)
         simp only [List.take_succ_cons,YW,List.length_append] at this ⊢
         omega
def V5 (n:Int) (c:UInt8):Int:=10*n+(c.toNat:Int)-48
theorem Zeb:∀ (l:Bs) (n:Int) (B:Int), -B≤n→n≤B→0≤B→ -(B+300)*11 ^ l.length≤l.foldl V5 n∧l.foldl V5 n≤(B+300)*11 ^ l.length:=by
 intro l
 induction l with
 |nil=>intro n B h1 h2 h3;simp;omega
 | cons c r ih =>
   intro n B h1 h2 h3
   have hc:=c.toNat_lt
   have hs:V5 n c=10*n+(c.toNat:Int)-48:=rfl
   have h5:=ih (V5 n c) (10*B+300) (by rw [hs];omega) (by rw [hs];omega) (by omega)
   simp only [List.foldl_cons,List.length_cons]
   have hp:(0:Int)≤11 ^ r.length:=Int.le_of_lt (Int.pow_pos (by decide))
   have e1:(B+300)*11 ^ (r.length+1)=(11*B+3300)*11 ^ r.length:=by rw [Int.pow_succ];rw [show (11:Int)*B+3300=(B+300)*11 by omega,Int.mul_assoc,Int.mul_comm 11]
   have e2:(10*B+300+300)*11 ^ r.length≤(11*B+3300)*11 ^ r.length:=Int.mul_le_mul_of_nonneg_right (by omega) hp
   have e3: -(B+300)*11 ^ (r.length+1)= -((B+300)*11 ^ (r.length+1)):=Int.neg_mul ..
   have e4: -(10*B+300+300)*11 ^ r.length= -((10*B+300+300)*11 ^ r.length):=Int.neg_mul ..
   rw [e4] at h5
   rw [e3,e1]
   omega
theorem Zmn (s:Bs):Ug s=((s.take 6).drop 1).foldl V5 0:=rfl
theorem ZhY (s:Bs) (i:Nat) (hi:i≤6): -1000000000≤((s.take i).drop 1).foldl V5 0∧((s.take i).drop 1).foldl V5 0≤1000000000:=by
 have h:=Zeb ((s.take i).drop 1) 0 0 (by omega) (by omega) (by omega)
 have hl:((s.take i).drop 1).length≤5:=by rw [List.length_drop,List.length_take];omega
 generalize ((s.take i).drop 1).length=k at h hl
 generalize ((s.take i).drop 1).foldl V5 0=F at h ⊢
 rcases (show k=0∨k=1∨k=2∨k=3∨k=4∨k=5 by omega) with rfl|rfl|rfl|rfl|rfl|rfl<;>simp at h<;>omega
theorem Zk6 {c:UInt8} (h:s[i]? = some c) (hi:1≤i):((s.take (i+1)).drop 1).foldl V5 0=V5 (((s.take i).drop 1).foldl V5 0) c:=by
 have hl:i<s.length:=by
  rcases Nat.lt_or_ge i s.length with h'|h'
  · exact h'
  · rw [List.getElem?_eq_none h'] at h;cases h
 rw [List.take_add_one,h,List.drop_append_of_le_length (by rw [List.length_take];omega),List.foldl_append]
 rfl
theorem UO:∀ (n:Nat) {u:Tm} {l:List Tm} {r:Tm},Yi n u=some (l,r)→∀ x,x∈l→x.within u
 | 0, u, l, r, h, x, hx => by
   simp only [Yi,Option.some.injEq,Prod.mk.injEq] at h
   rw [← h.1] at hx
   simp at hx
 | n + 1, u, l, r, h, x, hx => by
   rw [Uy] at h
   cases hp:Yp u with
   | none=>rw [hp] at h;cases h
   | some p =>
     obtain ⟨a,b⟩:=p
     obtain ⟨w1,w2,_⟩:=Y0 hp
     rw [hp] at h
     simp only at h
     cases hf:Yi n b with
     | none=>rw [hf] at h;cases h
     | some q =>
       obtain ⟨l',r'⟩:=q
       rw [hf] at h
       simp only [Option.some.injEq,Prod.mk.injEq] at h
       rw [← h.1] at hx
       rcases List.mem_cons.1 hx with rfl|hx
       · exact w1
       · exact Yl (UO n hf x hx) w2
theorem VQ (t:Tm):Zf t=(.zero,2)∨((Zf t).2=0∧(Zf t).1.valid=0∧(Zf t).1.key.within t∧∃ s b u key,t= .mk 3 [115,105,103,110] s b [u,key]∧((Zf t).1.issue key).2=0∧((Zf t).1.issue key).1.cmp t=0):=by
 by_cases h:t.valid≠0∨t.isB [115,105,103,110] 2=false
 · exact .inl (ZeZ _ _ _ h)
 · have h1 : t.valid = 0 := by
     by_cases e:t.valid=0
     · exact e
     · exact absurd (.inl e) h
   have h2:t.isB [115,105,103,110] 2=true:=by
    cases e:t.isB [115,105,103,110] 2 with
    | true=>rfl
    | false=>exact absurd (.inr e) h
   obtain ⟨s,b,u,key,rfl⟩:=Zb3 h2
   have e:=Zes ZO ZN Vt h1
   change Zf _=_ at e
   cases hf:Yi 8 u with
   | none=>left;rw [e,hf];rfl
   | some q =>
     obtain ⟨l,r⟩:=q
     rw [hf] at e
     obtain ⟨X,hX⟩:∃ X,X=Yz ZO ZN Vt l r:=⟨_,rfl⟩
     obtain ⟨z1,z2,z3,z4⟩:=Qj (rn:=ZO) (rl:=ZN) (num:=Vt) (t:= .mk 3 [115,105,103,110] s b [u,key]) (key:=key) (l:=l) (r:=r) (X:=X.1) (B:=X.2) (by rw [hX])
     cases hB:X.2 with
     | false=>left;rw [e,z1 hB]
     | true =>
       by_cases e1:(X.1.issue key).2=0
       · by_cases e2 : (X.1.issue key).1.cmp (.mk 3 [115, 105, 103, 110] s b [u, key]) = 0
         · right
           rw [e,z4 hB e1 e2]
           obtain ⟨v1,v2,v3,v4⟩:=Q0 e1
           refine ⟨rfl,v1,?_,s,b,u,key,rfl,e1,e2⟩
           rw [v4] at e2
           obtain ⟨l',r',k,f1,f2,f3,_,_⟩:=U7 v1 (Zeh e2)
           rw [hf] at f1
           cases f1
           rw [← hX] at f3
           have:X.1.key=k:=by rw [f3]
           simp only [this]
           have hm:k∈l:=by
            rw [f3] at hX
            rcases l with _|⟨a0,_|⟨a1,_|⟨a2,_|⟨a3,_|⟨a4,_|⟨a5,_|⟨a6,_|⟨a7,_|⟨a8,l⟩⟩⟩⟩⟩⟩⟩⟩⟩
            all_goals simp only [Yz,Prod.mk.injEq,Cred.mk.injEq] at hX
            all_goals first
             | (rw [hX.1.2.1];simp;done)
             | (exfalso;simp at hX;done)
           exact Yl (UO 8 hf k hm) (XH (by simp))
         · left;rw [e,z3 hB e2]
       · left;rw [e,z2 hB e1]
theorem ZeP (h:ZB s=true):s.length≤36:=by
 obtain ⟨h1,h2⟩:=UX h
 have h3:=Za0 [46] 8 (ZG s) h2
 rw [Ze2,ZbC] at h3
 simp only [List.length_cons,List.length_nil] at h3
 omega
theorem Zhg (h:x= .zero∨x.valid=0):x.sub.length≤1000∧(∀ s,s∈x.per→s.length≤1000)∧(∀ s,s∈x.exc→s.length≤1000)∧x.per.length≤1000∧x.exc.length≤1000:=by
 rcases h with rfl|h
 · exact ⟨by simp [Cred.zero],fun s hs=>by simp [Cred.zero] at hs,fun s hs=>by simp [Cred.zero] at hs,by simp [Cred.zero],by simp [Cred.zero]⟩
 · have hok := Zcf h
   exact ⟨by have:=ZeP hok.sub;omega,fun s hs=>by have:=ZeP (hok.per s hs);omega,fun s hs=>by have:=ZeP (hok.exc s hs);omega,by have:=hok.pl;omega,by have:=hok.el;omega⟩
noncomputable def Env.knowsG (E:Env) (l:List Fact):Env:=
 { E with
   F:=fun f=>match l.any (fun x=>Nat.beq x.f f) with|true=>none|false=>E.F f
   Z:=fun f args H=>match l.any (fun x=>Nat.beq x.f f) with
    | true => (match ZJ args with
      | some a=>(match Zjn l f a with|some r=>some (r,H)|none=>none)
      | none=>none)
    | false=>E.Z f args H}
section
variable {E:Env} {P:Program}
theorem Y4 {args':List PV} {r:PV} {H':Heap} (h:CallOk E P f args' H r H') (ha:ZJ args=some args'):CallOk E P f args H r H':=by
 intro g w vals hi hg hv
 obtain ⟨l1,l2⟩:=ZcC ha
 exact h g w vals hi hg ⟨by rw [l1];exact hv.1,fun i h1 h2=>V.pure (g:=g) _ _ (show V0 g.S _ _ from ZiM (hv.2 i (by omega) h2) (l2 i (by omega) h1))⟩
theorem ZdT {l:List Fact} (hl:∀ x∈l,FactOk E P x) (hZ:YE E P E.Z):YE (E.knowsG l) P (E.knowsG l).Z:=by
 intro f args H p H' h
 simp only [Env.knowsG] at h
 split at h
 · split at h
   · rename_i a ha
     split at h
     · rename_i r hr
       cases h
       obtain ⟨x,hx,rfl,rfl,rfl⟩:=ZcJ hr
       exact ⟨(Y4 (hl x hx H) ha).env rfl,fun _=>rfl⟩
     · cases h
   · cases h
 · obtain ⟨a, b⟩ := hZ _ _ _ _ _ h
   exact ⟨a.env rfl,b⟩
theorem Zkq {l:List Fact} (hF:FOk E P):FOk (E.knowsG l) P:=fun f fn c h=>by
 simp only [Env.knowsG] at h
 split at h
 · cases h
 · exact hF f fn c h
theorem ZgJ {E':Env} (hZ:E'.Z=E.Z) (hG:E'.G=E.G) (hI:E'.I=E.I) (hm:E'.mono=true→E.mono=true) (he:∀ f,E'.eff f=false→E.eff f=false) (h:YE E P E.Z):YE E' P E'.Z:=by
 intro f args H p H' hz
 rw [hZ] at hz
 obtain ⟨a,b⟩:=h _ _ _ _ _ hz
 exact ⟨a.env hG hI hm,fun e=>b (he f e)⟩
end
section
variable {E:Env} {P:Program}
theorem Zk7:∀ {m:List Nat} {A B X:Box} {ext:List Box},2∉m→∃ A' B' ext',Zdq m (A::B::X::ext)=A'::B'::X::ext'∧(A'=A∨A'= .dead)∧(B'=B∨B'= .dead)
 | [],A,B,X,ext,_=>⟨A,B,ext,rfl,.inl rfl,.inl rfl⟩
 | 0 :: m, A, B, X, ext, h => by
   obtain ⟨A',B',ext',e,h1,h2⟩:=Zk7 (m:=m) (A:= .dead) (B:=B) (X:=X) (ext:=ext) (fun x=>h (by simp [x]))
   exact ⟨A',B',ext',e,.inr (h1.elim id id),h2⟩
 | 1 :: m, A, B, X, ext, h => by
   obtain ⟨A',B',ext',e,h1,h2⟩:=Zk7 (m:=m) (A:=A) (B:= .dead) (X:=X) (ext:=ext) (fun x=>h (by simp [x]))
   exact ⟨A',B',ext',e,h1,.inr (h2.elim id id)⟩
 |2::m,A,B,X,ext,h=>absurd (by simp) h
 | (k + 3) :: m, A, B, X, ext, h => by
   obtain ⟨A',B',ext',e,h1,h2⟩:=Zk7 (m:=m) (A:=A) (B:=B) (X:=X) (ext:=ext.set k .dead) (fun x=>h (by simp [x]))
   exact ⟨A',B',ext',e,h1,h2⟩
theorem ZeL {k:FuncId} {al:List PV} (h:∀ A B,Yw 3 A=true→Yw 3 B=true→CallOk E P k al ⟨[A,B,X],0,lv,nt⟩ p ⟨[A,B,Y],0,lv,nt⟩) (hu:ZI 3 al=true) (hX:Yw 3 X=true) (hd:X≠ .dead)
 (hA:Yw 3 A=true) (hB:Yw 3 B=true) (ext:List Box):ZhO E P k al ⟨A::B::X::ext,0,lv,nt⟩ p 2 Y:=by
 refine ⟨by simpa using hd,fun m hm=>?_⟩
 obtain ⟨A',B',ext',e,h1,h2⟩:=Zk7 (A:=A) (B:=B) (X:=X) (ext:=ext) hm
 have hA':Yw 3 A'=true:=h1.elim (fun e=>e ▸ hA) (fun e=>e ▸ rfl)
 have hB':Yw 3 B'=true:=h2.elim (fun e=>e ▸ hB) (fun e=>e ▸ rfl)
 have hc:=(h A' B' hA' hB').ext (ext:=ext') rfl hu (by simp [hA',hB',hX]) (Nat.zero_le _)
 have e1:ZV m ⟨A::B::X::ext,0,lv,nt⟩=⟨[A',B',X]++ext',0,lv,nt⟩:=by
  simp only [ZV,e];rfl
 have e2:Yo (ZV m ⟨A::B::X::ext,0,lv,nt⟩) 2 Y=⟨[A',B',Y]++ext',0,lv,nt⟩:=by
  rw [e1];rfl
 rw [e2,e1]
 exact hc
def Zuf (A B Y:Box) (lv:List Nat) (nt:Nat) (p:PV) (r:PV) (H':Heap):Prop:=r=p∧∃ ext,H'=⟨A::B::Y::ext,0,lv,nt⟩
theorem Zcl {lv' : List Nat} {nt' : Nat} (h : ∃ r H', CallOk E P f args ⟨[A, B, X], 0, lv, nt⟩ r H' ∧ Zuf A B Y lv' nt' p r H') (hp : under 3 p = true) (hA : Yw 3 A = true) (hB : Yw 3 B = true) (hY : Yw 3 Y = true) :
  CallOk E P f args ⟨[A,B,X],0,lv,nt⟩ p ⟨[A,B,Y],0,lv',nt'⟩:=by
 obtain ⟨r,H',h1,rfl,ext,rfl⟩:=h
 exact h1.shed (by simp) (Nat.zero_le _) hp (by simp [hA,hB,hY])
end
def Wd (nm:List UInt8):Tm:= .mk 2 nm 5 true []
def WD:List UInt8:=[104,97,115,104]
def Z9:List UInt8:=[112,97,105,114]
def Za2:List UInt8:=[108,101,97,102]
def Zan:List UInt8:=[110,111,100,101]
def X6 (t:Tm):Tm:= .mk 3 WD 0 true [.mk 3 Z9 0 true [Wd Za2,t]]
def YL (a b:Tm):Tm:= .mk 3 WD 0 true [.mk 3 Z9 0 true [Wd Zan,.mk 3 Z9 0 true [a,b]]]
def Zd (n:Nat):Nat:=if n≤2 then 1 else if n≤4 then 2 else if n≤8 then 4 else if n≤16 then 8 else 16
def YM (p:List Tm×Bool):Tm×List Tm×Bool:=match p.1 with
 | []=>(.zero,[],true)
 |t::r=>(t,r,p.2)
def Vg:Nat→Nat→Nat→Tm→List Tm×Bool→Tm×List Tm×Bool
 |0,_,_,_,p=>(.zero,p)
 | m + 1, n, i, t, p => if n = 1 then (X6 t, p) else if i < Zd n then (YL (Vg m (Zd n) i t p).1 (YM (Vg m (Zd n) i t p).2).1, (YM (Vg m (Zd n) i t p).2).2)
   else (YL (YM (Vg m (n-Zd n) (i-Zd n) t p).2).1 (Vg m (n-Zd n) (i-Zd n) t p).1,(YM (Vg m (n-Zd n) (i-Zd n) t p).2).2)
theorem Y8 (n:Nat):1≤Zd n:=by unfold Zd;(repeat' split)<;>omega
theorem XG {n:Nat} (h:2≤n):Zd n<n:=by unfold Zd;(repeat' split)<;>omega
def Vv (h:Tm) (n i:Int) (t:Tm) (l:List Tm):Bool:=
 if n<1∨32<n∨i<0∨n≤i∨32<l.length then false else
  !(Vg 32 n.toNat i.toNat t (l,false)).2.2&&(Vg 32 n.toNat i.toNat t (l,false)).2.1.isEmpty&&decide ((Vg 32 n.toNat i.toNat t (l,false)).1.cmp h=0)
