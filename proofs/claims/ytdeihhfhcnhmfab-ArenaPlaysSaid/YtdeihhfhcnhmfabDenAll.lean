/- PRINTED by gen.py: all of them. No condition. -/
import Derived.Test.YtdeihhfhcnhmfabDen0
import Derived.Test.YtdeihhfhcnhmfabDen1
