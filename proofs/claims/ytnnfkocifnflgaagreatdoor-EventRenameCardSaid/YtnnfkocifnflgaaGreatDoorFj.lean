/-
  Moments, strings and numbers, as they are read.
-/
import Derived.Test.YtnnfkocifnflgaaGreatDoorFh
namespace Go.Vm
section
variable {T:TypeId→Option TI}
theorem Zi9 {s l : TypeId} {si li : TI} (hs : T s = some si) (ks : si.tk = .string) (zs : si.size = 1) (hl : T l = some li) (kl : li.tk = .slice s) {cs : List PV} (h : Sh T l cs) :
  ∃ b L,cs= [slV b 1 (Xk L)]∧L.length≤maxLen∧∀ x,x∈L→x.length≤maxLen:=by
 cases h with
 |bool h' hk'=>rw [hl] at h';cases h';rw [kl] at hk';cases hk'
 |int h' hk'=>rw [hl] at h';cases h';rw [kl] at hk';cases hk'
 |str h' hk'=>rw [hl] at h';cases h';rw [kl] at hk';cases hk'
 |struct h' hk'=>rw [hl] at h';cases h';rw [kl] at hk';cases hk'
 |nils h' hk'=>exact ⟨true,[],by rw [show Xk []= [] from rfl,Zk],Nat.zero_le _,fun _ h=>absurd h (by simp)⟩
 | sl h' hk' he hlen hel =>
   rw [hl] at h';cases h'
   rw [kl] at hk';cases hk'
   rw [hs] at he;cases he
   obtain ⟨L,hL,hok⟩:∃ L:List Zhw,_=Xk L∧∀ x,x∈L→x.length≤maxLen:=by
    have:∀ (el:List (List PV)),(∀ c,c∈el→∃ x:Zhw,c= [.str x]∧x.length≤maxLen)→∃ L:List Zhw,el=Xk L∧∀ x,x∈L→x.length≤maxLen:=by
     intro el
     induction el with
     | nil=>exact fun _=>⟨[],rfl,fun _ h=>absurd h (by simp)⟩
     | cons c r ih =>
       intro h
       obtain ⟨x,rfl,hx⟩:=h c List.mem_cons_self
       obtain ⟨L,rfl,hL⟩:=ih fun c hc=>h c (List.mem_cons_of_mem _ hc)
       exact ⟨x::L,rfl,fun y hy=>by
        rcases List.mem_cons.1 hy with rfl|hy
        · exact hx
        · exact hL y hy⟩
    exact this _ fun c hc=>ZiY (hel c hc) hs ks
   refine ⟨false,L,by rw [Z0, ← hL,zs],?_,hok⟩
   rw [hL,XA] at hlen
   exact hlen
theorem Zlp {i s sl t tl m ml : TypeId} {ii si sli ti tli mi mli : TI} (hi : T i = some ii) (ki : ii.tk = .int .i64) (zi : ii.size = 1) (hs : T s = some si) (ks : si.tk = .string) (zs : si.size = 1) (hsl : T sl = some sli) (ksl : sli.tk = .slice s) (zsl : sli.size = 1)
  (ht:T t=some ti) (kt:ti.tk= .struct [(0,i),(1,s),(2,i),(3,tl)]) (zt:ti.size=4) (htl:T tl=some tli) (ktl:tli.tk= .slice t) (ztl:tli.size=1)
  (hm:T m=some mi) (km:mi.tk= .struct [(0,i),(1,i),(2,i),(3,sl),(4,i),(5,tl)]) (zm:mi.size=6) (hml:T ml=some mli) (kml:mli.tk= .slice m) {cs:List PV} (h:Sh T ml cs) :
  ∃ b L,cs= [slV b 6 (moC L)]∧∀ x,x∈L→x.Ok:=by
 have one:∀ c,Sh T m c→∃ x:Mo,c=x.cells∧x.Ok:=fun c h=>by
  cases h with
  | bool h' hk'=>rw [hm] at h';cases h';rw [km] at hk';cases hk'
  | int h' hk'=>rw [hm] at h';cases h';rw [km] at hk';cases hk'
  | str h' hk'=>rw [hm] at h';cases h';rw [km] at hk';cases hk'
  | nils h' hk'=>rw [hm] at h';cases h';rw [km] at hk';cases hk'
  | sl h' hk'=>rw [hm] at h';cases h';rw [km] at hk';cases hk'
  | struct h' hk' hlen hf =>
    rw [hm] at h';cases h'
    rw [km] at hk';cases hk'
    rw [zm] at hlen
    obtain ⟨a,b,c,d,e,f,rfl⟩:=Zn3 hlen
    have q0:=hf 0 i ii (by simp) hi
    have q1:=hf 1 i ii (by simp) hi
    have q2:=hf 2 i ii (by simp) hi
    have q3:=hf 3 sl sli (by simp) hsl
    have q4:=hf 4 i ii (by simp) hi
    have q5:=hf 5 tl tli (by simp) htl
    rw [zi] at q0 q1 q2 q4
    rw [zsl] at q3
    rw [ztl] at q5
    obtain ⟨n0,e0,w0⟩:=Zab q0 hi ki
    obtain ⟨n1,e1,w1⟩:=Zab q1 hi ki
    obtain ⟨n2,e2,w2⟩:=Zab q2 hi ki
    obtain ⟨b3,l3,e3,w3,w3'⟩:=Zi9 hs ks zs hsl ksl q3
    obtain ⟨n4,e4,w4⟩:=Zab q4 hi ki
    obtain ⟨b5,l5,e5,w5,w5'⟩:=(ZmS hi ki zi hs ks zs htl ktl ztl ht kt zt q5).2 rfl
    simp only [List.drop_zero,List.drop_succ_cons,List.take_succ_cons,List.take_zero,List.cons.injEq,and_true] at e0 e1 e2 e3 e4 e5
    subst e0 e1 e2 e3 e4 e5
    exact ⟨⟨n0,n1,n2,b3,l3,n4,b5,l5⟩,rfl,⟨w0,w1,w2,w4,w3,w3',w5',w5⟩⟩
 cases h with
 |bool h' hk'=>rw [hml] at h';cases h';rw [kml] at hk';cases hk'
 |int h' hk'=>rw [hml] at h';cases h';rw [kml] at hk';cases hk'
 |str h' hk'=>rw [hml] at h';cases h';rw [kml] at hk';cases hk'
 |struct h' hk'=>rw [hml] at h';cases h';rw [kml] at hk';cases hk'
 |nils h' hk'=>exact ⟨true,[],by rw [show moC []= [] from rfl,Zk],fun _ h=>absurd h (by simp)⟩
 | sl h' hk' he hlen hel =>
   rw [hml] at h';cases h'
   rw [kml] at hk';cases hk'
   rw [hm] at he;cases he
   obtain ⟨L,hL,hok⟩:∃ L:List Mo,_=moC L∧∀ x,x∈L→x.Ok:=by
    have:∀ (el:List (List PV)),(∀ c,c∈el→∃ x:Mo,c=x.cells∧x.Ok)→∃ L:List Mo,el=moC L∧∀ x,x∈L→x.Ok:=by
     intro el
     induction el with
     | nil=>exact fun _=>⟨[],rfl,fun _ h=>absurd h (by simp)⟩
     | cons c r ih =>
       intro h
       obtain ⟨x,rfl,hx⟩:=h c List.mem_cons_self
       obtain ⟨L,rfl,hL⟩:=ih fun c hc=>h c (List.mem_cons_of_mem _ hc)
       exact ⟨x::L,rfl,fun y hy=>by
        rcases List.mem_cons.1 hy with rfl|hy
        · exact hx
        · exact hL y hy⟩
    exact this _ fun c hc=>one c (hel c hc)
   exact ⟨false,L,by rw [Z0, ← hL,zm],hok⟩
end
